/- A part of the proof: Lb, Yt, La, Lm, Ya, Yb, Yc, Yd, Ye, Yf, Yg, Na, Nb, Nc, Nd, Ne, Nf, Ng, Nj. -/
import Derived.Test.YtchlojabjmlodaaDoorTy
import Derived.Test.YtchlojabjmlodaaDoorA3
import Derived.Test.YtchlojabjmlodaaDoorX2
import Derived.Test.YtchlojabjmlodaaDoorMd
set_option linter.all false
/- Labels: what is computed, in plain words. -/
namespace Go.Proofs.YtchlojabjmlodaaDoor.AM
open Go

theorem ltS_irrefl (a : Str) : ltS a a = false := bl_irrefl _
theorem ltS_trans {a b c : Str} (h : ltS a b = true) (k : ltS b c = true) : ltS a c = true := bl_trans h k
theorem ltS_total {a b : Str} (h : ltS a b = false) (k : ltS b a = false) : a = b := bl_total h k
theorem ltS_asymm {a b : Str} (h : ltS a b = true) : ltS b a = false := by
  cases hb : ltS b a
  · rfl
  · have := ltS_trans h hb; rw [ltS_irrefl] at this; cases this
theorem ltS_ntrans {a b c : Str} (h : ltS a b = false) (k : ltS b c = false) : ltS a c = false := by
  cases hac : ltS a c
  · rfl
  · cases hba : ltS b a
    · have := ltS_total h hba; subst this; rw [hac] at k; cases k
    · have := ltS_trans hba hac; rw [this] at k; cases k
def pr (l : List GPair) (k : Nat) : GPair := l.getD k default
theorem pr_get {l : List GPair} {k : Nat} (h : k < l.length) : l[k]? = some (pr l k) := by
  rw [pr, List.getD_eq_getElem?_getD, List.getElem?_eq_getElem h]; rfl
def letterI (c : Int) : Bool := (decide (97 ≤ c) && decide (c ≤ 122)) || (decide (65 ≤ c) && decide (c ≤ 90)) || decide (c = 95)
def digitI (c : Int) : Bool := decide (48 ≤ c) && decide (c ≤ 57)
def okAt (s : Str) (i : Nat) : Bool := letterI (s.getD i 0).toNat || (digitI (s.getD i 0).toNat && decide (i ≠ 0))
def nameB (s : Str) : Bool := decide (1 ≤ s.length) && decide (s.length ≤ 64) && (List.range s.length).all (okAt s)

theorem nameB_bad {s : Str} {k : Nat} (hk : k < s.length) (h : okAt s k = false) : nameB s = false := by
  simp only [nameB, Bool.and_eq_false_iff, List.all_eq_false, List.mem_range]
  exact .inr ⟨k, hk, by simp [h]⟩
theorem nameB_good {s : Str} (h1 : 1 ≤ s.length) (h2 : s.length ≤ 64) (h : ∀ i, i < s.length → okAt s i = true) : nameB s = true := by
  simp only [nameB, h1, h2, decide_true, Bool.true_and, List.all_eq_true, List.mem_range]
  exact h
theorem nameB_len {s : Str} (h : s.length < 1 ∨ 64 < s.length) : nameB s = false := by
  simp only [nameB, Bool.and_eq_false_iff, decide_eq_false_iff_not]
  omega
theorem okAt_def {s : Str} {k : Nat} : (okAt s k = true) ↔ ((((97 ≤ ((s.getD k 0).toNat : Int) ∧ ((s.getD k 0).toNat : Int) ≤ 122) ∨ (65 ≤ ((s.getD k 0).toNat : Int) ∧ ((s.getD k 0).toNat : Int) ≤ 90)) ∨ ((s.getD k 0).toNat : Int) = 95) ∨ ((48 ≤ ((s.getD k 0).toNat : Int) ∧ ((s.getD k 0).toNat : Int) ≤ 57) ∧ ¬ (k = 0))) := by
  simp only [okAt, letterI, digitI, Bool.or_eq_true, Bool.and_eq_true, decide_eq_true_eq, ne_eq]

def saneAt (l : List GPair) (i : Nat) : Bool := nameB (pr l i).1 && decide ((pr l i).2.length ≤ 64) && (decide (i = 0) || ltS (pr l (i - 1)).1 (pr l i).1)
def saneB (l : List GPair) : Bool := decide (l.length ≤ 16) && (List.range l.length).all (saneAt l)
theorem saneB_bad {l : List GPair} {k : Nat} (hk : k < l.length) (h : saneAt l k = false) : saneB l = false := by
  simp only [saneB, Bool.and_eq_false_iff, List.all_eq_false, List.mem_range]
  exact .inr ⟨k, hk, by simp [h]⟩
theorem saneB_good {l : List GPair} (h1 : l.length ≤ 16) (h : ∀ i, i < l.length → saneAt l i = true) : saneB l = true := by
  simp only [saneB, h1, decide_true, Bool.true_and, List.all_eq_true, List.mem_range]
  exact h
theorem saneB_len {l : List GPair} (h : 16 < l.length) : saneB l = false := by
  simp only [saneB, Bool.and_eq_false_iff, decide_eq_false_iff_not]; left; omega

def countsL (l : List GPair) : List GPair := if saneB l then l else []
def getFrom (n : Str) : List GPair → Str × Bool
  | [] => ([], false)
  | p :: l => if p.1 = n then (p.2, true) else getFrom n l
def getL (l : List GPair) (n : Str) : Str × Bool := getFrom n (countsL l)
def withoutL (l : List GPair) (n : Str) : List GPair := (countsL l).filter fun p => !decide (p.1 = n)

theorem getFrom_take {n : Str} {l : List GPair} : ∀ {k : Nat}, k ≤ l.length → (∀ i, i < k → (pr l i).1 ≠ n) → getFrom n l = getFrom n (l.drop k)
  | 0, _, _ => by simp
  | k + 1, hk, h => by
    rw [getFrom_take (k := k) (by omega) (fun i hi => h i (by omega))]
    have hk' : k < l.length := by omega
    have hp := pr_get hk'
    have : l.drop k = pr l k :: l.drop (k + 1) := by
      rw [List.drop_eq_getElem_cons hk']
      congr 1
      rw [List.getElem?_eq_getElem hk'] at hp
      exact Option.some.inj hp
    rw [this, getFrom, if_neg (h k (by omega))]
theorem drop_pr {l : List GPair} {k : Nat} (hk : k < l.length) : l.drop k = pr l k :: l.drop (k + 1) := by
  have hp := pr_get hk
  rw [List.drop_eq_getElem_cons hk]
  congr 1
  rw [List.getElem?_eq_getElem hk] at hp
  exact Option.some.inj hp
theorem take_pr {l : List GPair} {k : Nat} (hk : k < l.length) : l.take (k + 1) = l.take k ++ [pr l k] := by
  have hp := pr_get hk
  rw [List.take_add_one, hp]; rfl

theorem countsL_len (l : List GPair) : (countsL l).length ≤ 16 := by
  unfold countsL
  split
  · rename_i h
    simp only [saneB, Bool.and_eq_true, decide_eq_true_eq] at h
    exact h.1
  · simp

def cmpS (a b : Str) : Int := if ltS a b then -1 else if ltS b a then 1 else 0
theorem cmpS_neg {a b : Str} : cmpS a b < 0 ↔ ltS a b = true := by
  unfold cmpS
  split
  · simp [*]
  · split <;> simp [*]

def tooLong (p : GPair) : Bool := decide (64 < p.2.length)
def twice : List GPair → Bool
  | [] => false
  | p :: l => l.any (fun q => decide (q.1 = p.1)) || twice l
def insP (p : GPair) : List GPair → List GPair
  | [] => [p]
  | q :: l => if ltS p.1 q.1 then p :: q :: l else q :: insP p l
def sortP : List GPair → List GPair
  | [] => []
  | p :: l => insP p (sortP l)
def wrongE (l : List GPair) : Int :=
  if 16 < l.length then 4 else if l.any tooLong then 4 else if l.all (fun p => nameB p.1) then (if twice l then 6 else 0) else 7
def makeL (l : List GPair) : List GPair × Int := if wrongE l = 0 then (sortP l, 0) else ([], wrongE l)

theorem insP_perm (p : GPair) : ∀ l, (insP p l).Perm (p :: l)
  | [] => .refl _
  | q :: l => by
    unfold insP
    split
    · exact .refl _
    · exact ((insP_perm p l).cons q).trans (.swap p q l)
theorem sortP_perm : ∀ l, (sortP l).Perm l
  | [] => .refl _
  | p :: l => (insP_perm p _).trans ((sortP_perm l).cons p)

def Asc (l : List GPair) : Prop := l.Pairwise (fun p q => ltS q.1 p.1 = false)
theorem insP_asc (p : GPair) : ∀ {l : List GPair}, Asc l → Asc (insP p l)
  | [], _ => by simp [insP, Asc]
  | q :: l, h => by
    obtain ⟨h1, h2⟩ := List.pairwise_cons.1 h
    unfold insP
    split
    · rename_i hl
      refine List.pairwise_cons.2 ⟨?_, h⟩
      intro r hr
      rcases List.mem_cons.1 hr with rfl | hr
      · exact ltS_asymm hl
      · have := h1 r hr
        cases hc : ltS r.1 p.1
        · rfl
        · have := ltS_trans hc hl; rw [h1 r hr] at this; cases this
    · rename_i hl
      refine List.pairwise_cons.2 ⟨?_, insP_asc p h2⟩
      intro r hr
      rcases List.mem_cons.1 ((insP_perm p l).mem_iff.1 hr) with rfl | hr
      · simpa using hl
      · exact h1 r hr
theorem sortP_asc : ∀ l, Asc (sortP l)
  | [] => .nil
  | p :: l => insP_asc p (sortP_asc l)

theorem twice_nodup : ∀ {l : List GPair}, twice l = false → (l.map (·.1)).Nodup
  | [], _ => .nil
  | p :: l, h => by
    simp only [twice, Bool.or_eq_false_iff, List.any_eq_false, decide_eq_true_eq] at h
    simp only [List.map_cons, List.nodup_cons, List.mem_map, not_exists, not_and]
    exact ⟨fun q hq => h.1 q hq, twice_nodup h.2⟩

/-- Sorted, with no name twice: only one way. -/
theorem asc_unique : ∀ {l m : List GPair}, Asc l → Asc m → l.Perm m → (l.map (·.1)).Nodup → l = m
  | [], m, _, _, h, _ => (List.nil_perm.1 h).symm
  | p :: l, [], _, _, h, _ => absurd h.length_eq (by simp)
  | p :: l, q :: m, h1, h2, h3, h4 => by
    obtain ⟨a1, a2⟩ := List.pairwise_cons.1 h1
    obtain ⟨b1, b2⟩ := List.pairwise_cons.1 h2
    have hpq : p = q := by
      have hp : p ∈ q :: m := h3.mem_iff.1 List.mem_cons_self
      have hq : q ∈ p :: l := h3.mem_iff.2 List.mem_cons_self
      rcases List.mem_cons.1 hp with h | hp
      · exact h
      rcases List.mem_cons.1 hq with h | hq
      · exact h.symm
      have e := ltS_total (a1 q hq) (b1 p hp)
      have hn := (List.nodup_cons.1 h4).1
      exact (hn (List.mem_map.2 ⟨q, hq, e⟩)).elim
    subst hpq
    rw [asc_unique a2 b2 (h3.cons_inv) (List.nodup_cons.1 h4).2]

theorem sortP_eq {l m : List GPair} (h : twice l = false) (hp : m.Perm l) (ha : Asc m) : m = sortP l :=
  asc_unique ha (sortP_asc l) (hp.trans (sortP_perm l).symm) ((hp.map (·.1)).nodup_iff.2 (twice_nodup h))

theorem twice_take {l : List GPair} {k : Nat} (hk : k < l.length) (h : (l.take k).any (fun q => decide (q.1 = (pr l k).1)) = true) : twice l = true := by
  induction l generalizing k with
  | nil => simp at hk
  | cons p l ih =>
    cases k with
    | zero => simp at h
    | succ k =>
      have hp : pr (p :: l) (k + 1) = pr l k := rfl
      rw [hp] at h
      simp only [List.take_succ_cons, List.any_cons, Bool.or_eq_true, decide_eq_true_eq] at h
      simp only [twice, Bool.or_eq_true, List.any_eq_true, decide_eq_true_eq]
      simp only [List.length_cons] at hk
      rcases h with h | h
      · left; exact ⟨pr l k, List.mem_of_getElem? (pr_get (by omega)), h.symm⟩
      · right; exact ih (by omega) h
theorem twice_none {l : List GPair} (h : ∀ k, k < l.length → (l.take k).any (fun q => decide (q.1 = (pr l k).1)) = false) : twice l = false := by
  induction l with
  | nil => rfl
  | cons p l ih =>
    simp only [twice, Bool.or_eq_false_iff]
    constructor
    · rw [List.any_eq_false]
      intro q hq
      obtain ⟨j, hj, rfl⟩ := List.mem_iff_getElem.1 hq
      have := h (j + 1) (by simp; omega)
      simp only [List.take_succ_cons, List.any_cons, Bool.or_eq_false_iff] at this
      have e : pr (p :: l) (j + 1) = l[j] := by
        have := pr_get (l := p :: l) (k := j + 1) (by simp; omega)
        simp only [List.getElem?_cons_succ, List.getElem?_eq_getElem hj] at this
        exact (Option.some.inj this).symm
      rw [e] at this
      simp only [decide_eq_true_eq, decide_eq_false_iff_not] at this ⊢
      exact fun e => this.1 e.symm
    · refine ih fun k hk => ?_
      have := h (k + 1) (by simp; omega)
      simp only [List.take_succ_cons, List.any_cons, Bool.or_eq_false_iff] at this
      exact this.2

theorem makeL_of {l : List GPair} {e : Int} (h : wrongE l = e) (he : e ≠ 0) : makeL l = ([], e) := by rw [makeL, h, if_neg he]
theorem makeL_ok {l : List GPair} (h : wrongE l = 0) : makeL l = (sortP l, 0) := by rw [makeL, if_pos h]
def withL (l : List GPair) (n v : Str) : List GPair × Int := makeL (withoutL l n ++ [⟨n, v⟩])
theorem withoutL_len (l : List GPair) (n : Str) : (withoutL l n).length ≤ 16 := Nat.le_trans (List.length_filter_le _ _) (countsL_len l)
def mergeLL (a b : List GPair) : List GPair × Int := makeL ((countsL a).filter (fun p => !(getL (countsL b) p.1).2) ++ countsL b)
def cmpP (p q : GPair) : Int := if cmpS p.1 q.1 ≠ 0 then cmpS p.1 q.1 else cmpS p.2 q.2
def cmpLs : List GPair → List GPair → Int
  | [], [] => 0
  | [], _ :: _ => -1
  | _ :: _, [] => 1
  | p :: a, q :: b => if cmpP p q ≠ 0 then cmpP p q else cmpLs a b
theorem cmpLs_drop {a b : List GPair} : ∀ {k : Nat}, k ≤ a.length → k ≤ b.length → (∀ i, i < k → cmpP (pr a i) (pr b i) = 0) → cmpLs a b = cmpLs (a.drop k) (b.drop k)
  | 0, _, _, _ => by simp
  | k + 1, h1, h2, h => by
    rw [cmpLs_drop (k := k) (by omega) (by omega) (fun i hi => h i (by omega)), drop_pr (l := a) (by omega), drop_pr (l := b) (by omega), cmpLs, if_neg (by simp [h k (by omega)])]

def compareL (a b : List GPair) : Int := cmpLs (countsL a) (countsL b)
def sumW (l : List GPair) : Nat → Int
  | 0 => 0
  | k + 1 => IntKind.i64.wrap (IntKind.i64.wrap (sumW l k + (pr l k).1.length) + (pr l k).2.length)
def fewB (l : List GPair) : Bool := decide (l.length ≤ 40) && decide (sumW l l.length ≤ 3000)
theorem fewB_len {l : List GPair} (h : fewB l = true) : l.length ≤ 40 := by
  simp only [fewB, Bool.and_eq_true, decide_eq_true_eq] at h; exact h.1

/-- The four conditions. -/
structure Good (l : List GPair) : Prop where
  len : l.length ≤ 16
  short : ∀ p ∈ l, tooLong p = false
  name : ∀ p ∈ l, nameB p.1 = true
  once : twice l = false

theorem wrongE_zero {l : List GPair} : wrongE l = 0 ↔ Good l := by
  unfold wrongE
  constructor
  · intro h
    split at h
    · cases h
    · rename_i h1
      split at h
      · cases h
      · rename_i h2
        split at h
        · rename_i h3
          split at h
          · cases h
          · rename_i h4
            exact ⟨by omega, by simpa using h2, by simpa using h3, by simpa using h4⟩
        · cases h
  · rintro ⟨h1, h2, h3, h4⟩
    rw [if_neg (by omega), if_neg (by simpa using h2), if_pos (by simpa using h3), if_neg (by simp [h4])]

theorem twice_iff {l : List GPair} : twice l = false ↔ (l.map (·.1)).Nodup := by
  constructor
  · exact twice_nodup
  · intro h
    induction l with
    | nil => rfl
    | cons p l ih =>
      obtain ⟨h1, h2⟩ := List.nodup_cons.1 h
      simp only [twice, Bool.or_eq_false_iff, List.any_eq_false, decide_eq_true_eq]
      exact ⟨fun q hq e => h1 (List.mem_map.2 ⟨q, hq, e⟩), ih h2⟩

theorem Good.perm {l m : List GPair} (h : Good l) (hp : m.Perm l) : Good m :=
  ⟨by rw [hp.length_eq]; exact h.len, fun p hm => h.short p (hp.mem_iff.1 hm), fun p hm => h.name p (hp.mem_iff.1 hm),
    twice_iff.2 (((hp.map (·.1)).nodup_iff).2 (twice_iff.1 h.once))⟩

theorem makeL_good {l : List GPair} (h : Good l) : makeL l = (sortP l, 0) := makeL_ok (wrongE_zero.2 h)
theorem makeL_perm {l m : List GPair} (h : Good l) (hp : m.Perm l) : makeL m = (sortP l, 0) := by
  rw [makeL_good (h.perm hp)]
  rw [sortP_eq h.once ((sortP_perm m).trans hp) (sortP_asc m)]
theorem sortP_sorted {l : List GPair} (h : Good l) (ha : Asc l) : sortP l = l := (sortP_eq h.once (.refl l) ha).symm


/-- Ascending, no name twice: strictly ascending. -/
theorem saneB_iff {l : List GPair} : saneB l = true ↔ l.length ≤ 16 ∧ (∀ p ∈ l, nameB p.1 = true) ∧ (∀ p ∈ l, p.2.length ≤ 64) ∧ l.Pairwise (fun p q => ltS p.1 q.1 = true) := by
  have hpr : ∀ p ∈ l, ∃ i, i < l.length ∧ pr l i = p := by
    intro p hp
    obtain ⟨i, hi, rfl⟩ := List.mem_iff_getElem.1 hp
    have e := pr_get hi
    rw [List.getElem?_eq_getElem hi] at e
    exact ⟨i, hi, (Option.some.inj e).symm⟩
  constructor
  · intro h
    simp only [saneB, Bool.and_eq_true, decide_eq_true_eq, List.all_eq_true, List.mem_range] at h
    obtain ⟨h1, h2⟩ := h
    have h3 : ∀ i, i < l.length → nameB (pr l i).1 = true ∧ (pr l i).2.length ≤ 64 ∧ (i = 0 ∨ ltS (pr l (i - 1)).1 (pr l i).1 = true) := by
      intro i hi
      have := h2 i hi
      simp only [saneAt, Bool.and_eq_true, decide_eq_true_eq, Bool.or_eq_true] at this
      exact ⟨this.1.1, this.1.2, this.2⟩
    refine ⟨h1, ?_, ?_, ?_⟩
    · intro p hp; obtain ⟨i, hi, rfl⟩ := hpr p hp; exact (h3 i hi).1
    · intro p hp; obtain ⟨i, hi, rfl⟩ := hpr p hp; exact (h3 i hi).2.1
    · rw [List.pairwise_iff_getElem]
      have key : ∀ (d i : Nat), i + d + 1 < l.length → ltS (pr l i).1 (pr l (i + d + 1)).1 = true := by
        intro d
        induction d with
        | zero =>
          intro i hi
          rcases (h3 (i + 0 + 1) hi).2.2 with h | h
          · omega
          · simpa using h
        | succ d ih =>
          intro i hi
          have a := ih i (by omega)
          rcases (h3 (i + (d + 1) + 1) hi).2.2 with h | h
          · omega
          · exact ltS_trans a (by simpa [Nat.add_assoc] using h)
      intro i j hi hj hij
      have e1 := pr_get hi
      have e2 := pr_get hj
      rw [List.getElem?_eq_getElem hi] at e1
      rw [List.getElem?_eq_getElem hj] at e2
      rw [Option.some.inj e1, Option.some.inj e2]
      have := key (j - i - 1) i (by omega)
      rwa [show i + (j - i - 1) + 1 = j from by omega] at this
  · rintro ⟨h1, h2, h3, h4⟩
    refine saneB_good h1 fun i hi => ?_
    have hm : pr l i ∈ l := List.mem_of_getElem? (pr_get hi)
    simp only [saneAt, h2 _ hm, h3 _ hm, decide_true, Bool.true_and, Bool.or_eq_true, decide_eq_true_eq]
    rcases Nat.eq_zero_or_pos i with h | h
    · exact .inl h
    · right
      have := List.pairwise_iff_getElem.1 h4 (i - 1) i (by omega) hi (by omega)
      have e1 := pr_get (l := l) (k := i - 1) (by omega)
      have e2 := pr_get hi
      rw [List.getElem?_eq_getElem (by omega)] at e1
      rw [List.getElem?_eq_getElem hi] at e2
      rw [Option.some.inj e1, Option.some.inj e2] at this
      exact this

theorem saneB_good' {l : List GPair} (h : saneB l = true) : Good l ∧ Asc l := by
  obtain ⟨h1, h2, h3, h4⟩ := saneB_iff.1 h
  refine ⟨⟨h1, fun p hp => by have := h3 p hp; simp only [tooLong, decide_eq_false_iff_not]; omega, h2, twice_iff.2 ?_⟩, h4.imp fun h => ltS_asymm h⟩
  rw [List.Nodup, List.pairwise_map]
  exact h4.imp fun {a b} hab he => by rw [he, ltS_irrefl] at hab; cases hab

theorem sane_of_good {l : List GPair} (h : Good l) (ha : Asc l) : saneB l = true := by
  refine saneB_iff.2 ⟨h.len, h.name, fun p hp => by have := h.short p hp; simp only [tooLong, decide_eq_false_iff_not] at this; omega, ?_⟩
  have hn := twice_iff.1 h.once
  rw [List.Nodup, List.pairwise_map] at hn
  refine (ha.and hn).imp ?_
  rintro a b ⟨h1, h2⟩
  cases hc : ltS a.1 b.1
  · exact (h2 (ltS_total hc h1)).elim
  · rfl

theorem getFrom_mem {l : List GPair} (h : (l.map (·.1)).Nodup) {p : GPair} (hp : p ∈ l) : getFrom p.1 l = (p.2, true) := by
  induction l with
  | nil => cases hp
  | cons q l ih =>
    obtain ⟨h1, h2⟩ := List.nodup_cons.1 h
    unfold getFrom
    rcases List.mem_cons.1 hp with rfl | hp
    · rw [if_pos rfl]
    · rw [if_neg (fun e => h1 (List.mem_map.2 ⟨p, hp, e.symm⟩))]
      exact ih h2 hp
theorem getL_mem {l : List GPair} (hs : saneB l = true) {p : GPair} (hp : p ∈ l) : getL l p.1 = (p.2, true) := by
  rw [getL, countsL, if_pos hs]
  exact getFrom_mem (twice_iff.1 (saneB_good' hs).1.once) hp
theorem sane_sortP {l : List GPair} (h : Good l) : saneB (sortP l) = true := sane_of_good (h.perm (sortP_perm l)) (sortP_asc l)
theorem getL_sortP {l : List GPair} (h : Good l) {p : GPair} (hp : p ∈ l) : getL (sortP l) p.1 = (p.2, true) := getL_mem (sane_sortP h) ((sortP_perm l).mem_iff.2 hp)
theorem makeL_sortP {l : List GPair} (h : Good l) : makeL (sortP l) = (sortP l, 0) := makeL_perm h (sortP_perm l)
theorem makeL_reverse {l : List GPair} (h : Good l) : makeL l.reverse = (sortP l, 0) := makeL_perm h (List.reverse_perm l)
theorem makeL_bad {l : List GPair} (h : ¬ Good l) : (makeL l).1 = [] ∧ (makeL l).2 ≠ 0 ∧ saneB l = false := by
  have hw : wrongE l ≠ 0 := fun e => h (wrongE_zero.1 e)
  rw [makeL_of rfl hw]
  refine ⟨rfl, hw, ?_⟩
  cases hs : saneB l
  · rfl
  · exact (h (saneB_good' hs).1).elim


structure Ord3 {α : Type} (f : α → α → Int) : Prop where
  rng : ∀ a b, f a b = -1 ∨ f a b = 0 ∨ f a b = 1
  anti : ∀ a b, f b a = - f a b
  zero : ∀ a b, f a b = 0 ↔ a = b
  trans : ∀ a b c, f a b ≤ 0 → f b c ≤ 0 → f a c ≤ 0

theorem cmpS_ord : Ord3 cmpS := by
  refine ⟨fun a b => ?_, fun a b => ?_, fun a b => ?_, fun a b c => ?_⟩
  · unfold cmpS; split
    · exact .inl rfl
    · split
      · exact .inr (.inr rfl)
      · exact .inr (.inl rfl)
  · unfold cmpS
    cases h : ltS a b
    · cases h2 : ltS b a <;> simp
    · rw [ltS_asymm h]; simp
  · unfold cmpS
    cases h : ltS a b
    · cases h2 : ltS b a
      · simp [ltS_total h h2]
      · simp only [Bool.false_eq_true, if_false, if_true]
        constructor
        · intro h; cases h
        · rintro rfl; rw [ltS_irrefl] at h2; cases h2
    · simp only [if_true]
      constructor
      · intro h; cases h
      · rintro rfl; rw [ltS_irrefl] at h; cases h
  · have key : ∀ a b, cmpS a b ≤ 0 ↔ ltS b a = false := by
      intro a b
      unfold cmpS
      cases h : ltS a b
      · cases h2 : ltS b a <;> simp
      · simp [ltS_asymm h]
    rw [key, key, key]
    intro h1 h2
    exact ltS_ntrans h2 h1

theorem cmpP_ord : Ord3 cmpP := by
  refine ⟨fun a b => ?_, fun a b => ?_, fun a b => ?_, fun a b c => ?_⟩
  · unfold cmpP; split
    · exact cmpS_ord.rng _ _
    · exact cmpS_ord.rng _ _
  · unfold cmpP
    rw [cmpS_ord.anti a.1 b.1, cmpS_ord.anti a.2 b.2]
    by_cases h : cmpS a.1 b.1 = 0
    · simp [h]
    · rw [if_pos (by omega), if_pos h]
  · unfold cmpP
    by_cases h : cmpS a.1 b.1 = 0
    · rw [if_neg (by simp [h]), cmpS_ord.zero]
      rw [cmpS_ord.zero] at h
      exact ⟨fun e => by cases a; cases b; simp only at h e; subst h; subst e; rfl, fun e => by rw [e]⟩
    · rw [if_pos h]
      refine ⟨fun e => absurd e h, fun e => ?_⟩
      subst e
      exact absurd ((cmpS_ord.zero _ _).2 rfl) h
  · unfold cmpP
    intro h1 h2
    have t1 := cmpS_ord.trans a.1 b.1 c.1
    have t2 := cmpS_ord.trans a.2 b.2 c.2
    have u1 := cmpS_ord.trans c.1 b.1 a.1
    have n1 := cmpS_ord.anti a.1 b.1
    have n2 := cmpS_ord.anti b.1 c.1
    have n3 := cmpS_ord.anti a.1 c.1
    split at h1
    · split at h2
      · rename_i g1 g2
        have h3 := t1 h1 h2
        rw [if_pos]
        · exact h3
        · intro h0
          have e := (cmpS_ord.zero a.1 c.1).1 h0
          rw [e] at h1 g1 n1
          omega
      · rename_i g1 g2
        have e : b.1 = c.1 := (cmpS_ord.zero _ _).1 (by omega)
        rw [← e, if_pos g1]; exact h1
    · rename_i g1
      have e : a.1 = b.1 := (cmpS_ord.zero _ _).1 (by omega)
      split at h2
      · rename_i g2
        rw [e, if_pos g2]; exact h2
      · rename_i g2
        rw [e, if_neg g2]
        exact t2 h1 h2

theorem cmpLs_ord : Ord3 cmpLs := by
  refine ⟨fun a b => ?_, fun a b => ?_, fun a b => ?_, fun a b c => ?_⟩
  · induction a generalizing b with
    | nil => cases b <;> simp [cmpLs]
    | cons p a ih =>
      cases b with
      | nil => simp [cmpLs]
      | cons q b =>
        simp only [cmpLs]
        split
        · exact cmpP_ord.rng _ _
        · exact ih b
  · induction a generalizing b with
    | nil => cases b <;> simp [cmpLs]
    | cons p a ih =>
      cases b with
      | nil => simp [cmpLs]
      | cons q b =>
        simp only [cmpLs]
        rw [cmpP_ord.anti p q, ih b]
        by_cases h : cmpP p q = 0
        · simp [h]
        · rw [if_pos (by omega), if_pos h]
  · induction a generalizing b with
    | nil => cases b <;> simp [cmpLs]
    | cons p a ih =>
      cases b with
      | nil => simp [cmpLs]
      | cons q b =>
        simp only [cmpLs]
        by_cases h : cmpP p q = 0
        · rw [if_neg (by simp [h]), ih b]
          rw [cmpP_ord.zero] at h
          subst h; simp
        · rw [if_pos h]
          refine ⟨fun e => absurd e h, fun e => ?_⟩
          simp only [List.cons.injEq] at e
          exact absurd ((cmpP_ord.zero _ _).2 e.1) h
  · induction a generalizing b c with
    | nil => cases b <;> cases c <;> simp [cmpLs]
    | cons p a ih =>
      cases b with
      | nil => simp [cmpLs]
      | cons q b =>
        cases c with
        | nil => simp [cmpLs]
        | cons r c =>
          simp only [cmpLs]
          intro h1 h2
          have t := cmpP_ord.trans p q r
          have n1 := cmpP_ord.anti p q
          have n2 := cmpP_ord.anti q r
          split at h1
          · rename_i g1
            split at h2
            · rename_i g2
              rw [if_pos]
              · exact t h1 h2
              · intro h0
                have e := (cmpP_ord.zero p r).1 h0
                subst e
                omega
            · rename_i g2
              have e : q = r := (cmpP_ord.zero _ _).1 (by omega)
              subst e
              rw [if_pos g1]; exact h1
          · rename_i g1
            have e : p = q := (cmpP_ord.zero _ _).1 (by omega)
            subst e
            split at h2
            · rename_i g2
              rw [if_pos g2]; exact h2
            · rename_i g2
              rw [if_neg g2]
              exact ih b c h1 h2
end Go.Proofs.YtchlojabjmlodaaDoor.AM

/- Tools for models. -/
namespace Go.Proofs.YtchlojabjmlodaaDoor.AM
open Go

section
variable {α β σ : Type}
@[simp] theorem letE_eq (enc : α → AV) (e : α) (m : α → Option β) : letE enc e m = m e := rfl
@[simp] theorem letO_eq (enc : α → AV) (ob : α → List Obj) (e : α) (m : α → Option β) : letO enc ob e m = m e := rfl
@[simp] theorem retM_eq (x : β) : retM x = some x := rfl
@[simp] theorem tokM_eq (a b c : Nat) (m : Option β) : tokM a b c m = m := rfl
@[simp] theorem pubM_eq (a b : Nat) (m : Option β) : pubM a b m = m := rfl
@[simp] theorem shM_eq (a : Nat) (m : Option β) : shM a m = m := rfl
@[simp] theorem swapM_eq (a b : Nat) (m : Option β) : swapM a b m = m := rfl
@[simp] theorem unboxM_eq (a : Nat) (m : Option β) : unboxM a m = m := rfl
@[simp] theorem pubbM_eq (a : Nat) (m : Option β) : pubbM a m = m := rfl
@[simp] theorem drawM_eq (m : Option β) : drawM m = m := rfl
@[simp] theorem iteM_true (x y : Option β) : iteM true x y = x := rfl
@[simp] theorem iteM_false (x y : Option β) : iteM false x y = y := rfl
theorem iteM_if (b : Bool) (x y : Option β) : iteM b x y = if b = true then x else y := rfl
@[simp] theorem iteM_dec (p : Prop) [Decidable p] (x y : Option β) : iteM (decide p) x y = if p then x else y := by
  unfold iteM; by_cases h : p <;> simp [h]
@[simp] theorem iteM_not (b : Bool) (x y : Option β) : iteM (!b) x y = iteM b y x := by cases b <;> rfl
@[simp] theorem callM_some (enc : α → AV) (ob : α → List Obj) (a : α) (m : α → Option β) : callM enc ob (some a) m = m a := rfl
@[simp] theorem exitM_some (r : β) : exitM (σ := σ) (some r) = some (.inr r) := rfl
@[simp] theorem nextM_eq (x : σ) : nextM (β := β) x = some (.inl x) := rfl
@[simp] theorem joinM_eq (ph : σ → List (Nat × AV)) (ob : σ → List Obj) (rest : σ → Option β) (m : Option (σ ⊕ β)) : joinM ph ob rest m = m.bind (Sum.elim rest some) := rfl
theorem gdM_pos {p : Prop} [Decidable p] (h : p) (m : Option β) : gdM p m = m := if_pos h
theorem idxM_get {l : List α} {i : Nat} {x : α} (h : l[i]? = some x) (m : α → Option β) : idxM l (i : Int) m = m x := by
  unfold idxM; rw [if_pos (by omega), Int.toNat_natCast, h]; rfl
theorem idxM_of {l : List α} {i : Int} {x : α} (h0 : 0 ≤ i) (h : l[i.toNat]? = some x) (m : α → Option β) : idxM l i m = m x := by
  unfold idxM; rw [if_pos h0, h]; rfl
theorem wI_of {x : Int} (h : -9223372036854775808 ≤ x ∧ x ≤ 9223372036854775807) : wI x = x := IntWalk.i64_in x h
theorem loopM_rec {ph : σ → List (Nat × AV)} {ob : σ → List Obj} {step : σ → Option (σ ⊕ β)} (I : σ → Prop) (μ : σ → Nat) (F : σ → β)
    (h : ∀ s, I s → step s = some (.inr (F s)) ∨ ∃ s', step s = some (.inl s') ∧ I s' ∧ μ s' < μ s ∧ F s' = F s) {s : σ} (hs : I s) : loopM ph ob step s = some (F s) := iter_rec I μ F h s hs
/-- A loop over the numbers below n. -/
theorem loopM_nat {ph : Int → List (Nat × AV)} {ob : Int → List Obj} {step : Int → Option (Int ⊕ β)} (n : Nat) (F : Nat → β)
    (h1 : ∀ i, i < n → step (i : Int) = some (.inr (F i)) ∨ (step (i : Int) = some (.inl ((i + 1 : Nat) : Int)) ∧ F (i + 1) = F i)) (h2 : step (n : Int) = some (.inr (F n))) : loopM ph ob step 0 = some (F 0) := by
  have := loopM_rec (ph := ph) (ob := ob) (step := step) (fun i : Int => 0 ≤ i ∧ i ≤ n) (fun i => (n - i).toNat) (fun i => F i.toNat) (by
    rintro i ⟨h0, hn⟩
    obtain ⟨k, rfl⟩ := Int.eq_ofNat_of_zero_le h0
    rcases Nat.lt_or_ge k n with hk | hk
    · rcases h1 k hk with h | ⟨h, he⟩
      · exact .inl (by simpa using h)
      · exact .inr ⟨_, h, ⟨by omega, by omega⟩, by omega, by simp only [Int.toNat_natCast]; exact he⟩
    · have : k = n := by omega
      subst this
      exact .inl (by simpa using h2)) (s := 0) ⟨by omega, by omega⟩
  simpa using this
/-- .. with what is known by then. -/
theorem loopM_natJ {ph : Int → List (Nat × AV)} {ob : Int → List Obj} {step : Int → Option (Int ⊕ β)} (n : Nat) (J : Nat → Prop) (F : Nat → β)
    (h1 : ∀ i, i < n → J i → step (i : Int) = some (.inr (F i)) ∨ (step (i : Int) = some (.inl ((i + 1 : Nat) : Int)) ∧ J (i + 1) ∧ F (i + 1) = F i)) (h2 : J n → step (n : Int) = some (.inr (F n))) (h0 : J 0) : loopM ph ob step 0 = some (F 0) := by
  have := loopM_rec (ph := ph) (ob := ob) (step := step) (fun i : Int => (0 ≤ i ∧ i ≤ n) ∧ J i.toNat) (fun i => (n - i).toNat) (fun i => F i.toNat) (by
    rintro i ⟨⟨h0, hn⟩, hj⟩
    obtain ⟨k, rfl⟩ := Int.eq_ofNat_of_zero_le h0
    simp only [Int.toNat_natCast] at hj
    rcases Nat.lt_or_ge k n with hk | hk
    · rcases h1 k hk hj with h | ⟨h, hj', he⟩
      · exact .inl (by simpa using h)
      · exact .inr ⟨_, h, ⟨⟨by omega, by omega⟩, by simpa using hj'⟩, by omega, by simp only [Int.toNat_natCast]; exact he⟩
    · have : k = n := by omega
      subst this
      exact .inl (by simpa using h2 hj)) (s := 0) ⟨⟨by omega, by omega⟩, by simpa using h0⟩
  simpa using this
/-- .. downwards. -/
theorem loopM_down {ph : Int → List (Nat × AV)} {ob : Int → List Obj} {step : Int → Option (Int ⊕ β)} (F : Nat → β)
    (h0 : step 0 = some (.inr (F 0))) (n : Nat) (h1 : ∀ i, i < n → step ((i + 1 : Nat) : Int) = some (.inr (F (i + 1))) ∨ (step ((i + 1 : Nat) : Int) = some (.inl (i : Int)) ∧ F i = F (i + 1))) : loopM ph ob step (n : Int) = some (F n) := by
  have := loopM_rec (ph := ph) (ob := ob) (step := step) (fun i : Int => 0 ≤ i ∧ i ≤ n) (fun i => i.toNat) (fun i => F i.toNat) (by
    rintro i ⟨h0', hn⟩
    obtain ⟨k, rfl⟩ := Int.eq_ofNat_of_zero_le h0'
    cases k with
    | zero => exact .inl (by simpa using h0)
    | succ k =>
      rcases h1 k (by omega) with h | ⟨h, he⟩
      · exact .inl (by simpa using h)
      · exact .inr ⟨_, h, ⟨by omega, by omega⟩, by omega, by simp only [Int.toNat_natCast]; exact he⟩) (s := (n : Int)) ⟨by omega, by omega⟩
  simpa using this
/-- .. with what is gathered. -/
theorem loopM_natA {A : Type} {ph : Int × A → List (Nat × AV)} {ob : Int × A → List Obj} {step : Int × A → Option (Int × A ⊕ β)} (n : Nat) (J : Nat → A → Prop) (F : Nat → A → β)
    (h1 : ∀ i a, i < n → J i a → step ((i : Int), a) = some (.inr (F i a)) ∨ ∃ a', step ((i : Int), a) = some (.inl (((i + 1 : Nat) : Int), a')) ∧ J (i + 1) a' ∧ F (i + 1) a' = F i a) (h2 : ∀ a, J n a → step ((n : Int), a) = some (.inr (F n a))) {a : A} (h0 : J 0 a) : loopM ph ob step (0, a) = some (F 0 a) := by
  have := loopM_rec (ph := ph) (ob := ob) (step := step) (fun s : Int × A => (0 ≤ s.1 ∧ s.1 ≤ n) ∧ J s.1.toNat s.2) (fun s => (n - s.1).toNat) (fun s => F s.1.toNat s.2) (by
    rintro ⟨i, a⟩ ⟨⟨h0, hn⟩, hj⟩
    simp only at h0 hn hj
    obtain ⟨k, rfl⟩ := Int.eq_ofNat_of_zero_le h0
    simp only [Int.toNat_natCast] at hj ⊢
    rcases Nat.lt_or_ge k n with hk | hk
    · rcases h1 k a hk hj with h | ⟨a', h, hj', he⟩
      · exact .inl h
      · exact .inr ⟨_, h, ⟨⟨by simp only; omega, by simp only; omega⟩, by simpa using hj'⟩, by simp only; omega, by simpa using he⟩
    · have : k = n := by omega
      subst this
      exact .inl (h2 a hj)) (s := (0, a)) ⟨⟨by simp, by simp⟩, by simpa using h0⟩
  simpa using this
/-- .. what is gathered first. -/
theorem loopM_natB {A : Type} {ph : A × Int → List (Nat × AV)} {ob : A × Int → List Obj} {step : A × Int → Option (A × Int ⊕ β)} (n : Nat) (J : Nat → A → Prop) (F : Nat → A → β)
    (h1 : ∀ i a, i < n → J i a → step (a, (i : Int)) = some (.inr (F i a)) ∨ ∃ a', step (a, (i : Int)) = some (.inl (a', ((i + 1 : Nat) : Int))) ∧ J (i + 1) a' ∧ F (i + 1) a' = F i a) (h2 : ∀ a, J n a → step (a, (n : Int)) = some (.inr (F n a))) {a : A} (h0 : J 0 a) : loopM ph ob step (a, 0) = some (F 0 a) := by
  have := loopM_rec (ph := ph) (ob := ob) (step := step) (fun s : A × Int => (0 ≤ s.2 ∧ s.2 ≤ n) ∧ J s.2.toNat s.1) (fun s => (n - s.2).toNat) (fun s => F s.2.toNat s.1) (by
    rintro ⟨a, i⟩ ⟨⟨h0, hn⟩, hj⟩
    simp only at h0 hn hj
    obtain ⟨k, rfl⟩ := Int.eq_ofNat_of_zero_le h0
    simp only [Int.toNat_natCast] at hj ⊢
    rcases Nat.lt_or_ge k n with hk | hk
    · rcases h1 k a hk hj with h | ⟨a', h, hj', he⟩
      · exact .inl h
      · exact .inr ⟨_, h, ⟨⟨by simp only; omega, by simp only; omega⟩, by simpa using hj'⟩, by simp only; omega, by simpa using he⟩
    · have : k = n := by omega
      subst this
      exact .inl (h2 a hj)) (s := (a, 0)) ⟨⟨by simp, by simp⟩, by simpa using h0⟩
  simpa using this
end
end Go.Proofs.YtchlojabjmlodaaDoor.AM

/- The models of package label, told in plain words: names, what is sane, got, taken away. -/
namespace Go.Proofs.YtchlojabjmlodaaDoor.AM
open Go

theorem str_get {s : Str} {k : Nat} (h : k < s.length) : s[k]? = some (s.getD k 0) := by
  rw [List.getD_eq_getElem?_getD, List.getElem?_eq_getElem h]; rfl
theorem bif_or (a b : Bool) : (bif a then true else b) = (a || b) := by cases a <;> rfl
theorem bif_and (a b : Bool) : (bif a then b else false) = (a && b) := by cases a <;> rfl

theorem label_Name_eq (s : Str) : label_Name s = some (nameB s) := by
  unfold label_Name
  simp only [letE_eq, bif_or, bif_and]
  by_cases h : s.length < 1 ∨ 64 < s.length
  · rw [show (decide ((s.length : Int) < 1) || decide ((64 : Int) < s.length)) = true from by simp; omega]
    simp [nameB_len h]
  · rw [show (decide ((s.length : Int) < 1) || decide ((64 : Int) < s.length)) = false from by simp; omega]
    simp only [iteM_false]
    refine (loopM_nat s.length (fun i => (List.range s.length).all fun j => decide (j < i) || okAt s j) ?_ ?_).trans ?_
    rotate_right
    · congr 1
      rw [nameB, decide_eq_true (show 1 ≤ s.length by omega), decide_eq_true (show s.length ≤ 64 by omega)]
      simp
    · intro i hi
      simp only [iteM_dec, idxM_get (str_get hi)]
      rw [if_pos (by omega)]
      have e : ((!((decide ((97 : Int) ≤ ((s.getD i 0).toNat : Int)) && decide (((s.getD i 0).toNat : Int) ≤ 122) || (decide ((65 : Int) ≤ ((s.getD i 0).toNat : Int)) && decide (((s.getD i 0).toNat : Int) ≤ 90))) || decide (((s.getD i 0).toNat : Int) = 95))) && ((!(decide ((48 : Int) ≤ ((s.getD i 0).toNat : Int)) && decide (((s.getD i 0).toNat : Int) ≤ 57))) || decide ((i : Int) = 0))) = !okAt s i := by
        simp only [okAt, letterI, digitI]
        rw [show decide ((i : Int) = 0) = !decide (i ≠ 0) from by by_cases h : i = 0 <;> simp [h]]
        simp [Bool.not_or, Bool.not_and]
      rw [e, iteM_not]
      cases ho : okAt s i
      · left
        simp only [iteM_false, retM_eq, exitM_some, Option.some.injEq, Sum.inr.injEq]
        symm
        rw [List.all_eq_false]
        exact ⟨i, List.mem_range.2 hi, by simp [ho]⟩
      · right
        rw [wI_of (by omega)]
        refine ⟨by simp, ?_⟩
        congr 1
        funext j
        by_cases hj : j = i
        · subst hj; simp [ho]
        · rw [show decide (j < i + 1) = decide (j < i) from by rw [decide_eq_decide]; omega]
    · simp only [iteM_dec]
      rw [if_neg (by omega)]
      simp only [retM_eq, exitM_some, Option.some.injEq, Sum.inr.injEq]
      symm
      rw [List.all_eq_true]
      intro j hj
      rw [List.mem_range] at hj
      simp [hj]

theorem all_lt {n : Nat} {f : Nat → Bool} {i : Nat} (h : f i = true) : ((List.range n).all fun j => decide (j < i + 1) || f j) = ((List.range n).all fun j => decide (j < i) || f j) := by
  congr 1
  funext j
  by_cases hj : j = i
  · subst hj; simp [h]
  · rw [show decide (j < i + 1) = decide (j < i) from by rw [decide_eq_decide]; omega]
theorem all_bad {n : Nat} {f : Nat → Bool} {i : Nat} (hi : i < n) (h : f i = false) : ((List.range n).all fun j => decide (j < i) || f j) = false := by
  rw [List.all_eq_false]; exact ⟨i, List.mem_range.2 hi, by simp [h]⟩
theorem all_end {n : Nat} {f : Nat → Bool} : ((List.range n).all fun j => decide (j < n) || f j) = true := by
  rw [List.all_eq_true]; intro j hj; rw [List.mem_range] at hj; simp [hj]
theorem all_zero {n : Nat} {f : Nat → Bool} : ((List.range n).all fun j => decide (j < 0) || f j) = (List.range n).all f := by simp

theorem label_Sane_eq (l : List GPair) : label_Sane l = some (saneB l) := by
  unfold label_Sane
  simp only [letE_eq, iteM_dec]
  by_cases h : 16 < l.length
  · rw [if_pos (by omega), saneB_len h]; rfl
  · rw [if_neg (by omega)]
    refine (loopM_nat l.length (fun i => (List.range l.length).all fun j => decide (j < i) || saneAt l j) ?_ ?_).trans ?_
    rotate_right
    · rw [all_zero, saneB, decide_eq_true (by omega)]; rfl
    · intro i hi
      simp only [iteM_dec, idxM_get (pr_get hi), label_Name_eq, callM_some, iteM_not]
      rw [if_pos (by omega)]
      cases h1 : nameB (pr l i).1
      · left; simp [all_bad hi (show saneAt l i = false by simp [saneAt, h1])]
      · simp only [iteM_true]
        by_cases h2 : 64 < (pr l i).2.length
        · left; rw [if_pos (by omega)]
          simp [all_bad hi (show saneAt l i = false by simp [saneAt, h1]; omega)]
        · rw [if_neg (by omega)]
          by_cases h3 : i = 0
          · subst h3
            right
            rw [if_neg (by omega), wI_of (by omega)]
            exact ⟨by simp, all_lt (by simp [saneAt, h1]; omega)⟩
          · rw [if_pos (by omega), wI_of (by omega), idxM_of (x := pr l (i - 1)) (by omega) (by rw [show ((i : Int) - 1).toNat = i - 1 from by omega]; exact pr_get (by omega))]
            cases h4 : ltS (pr l (i - 1)).1 (pr l i).1
            · left; simp [all_bad hi (show saneAt l i = false by simp [saneAt, h1, h3, h4]), h4]
            · right
              rw [wI_of (by omega)]
              exact ⟨by simp, all_lt (by simp [saneAt, h1, h3, h4]; omega)⟩
    · rw [if_neg (by omega)]
      simp [all_end]

theorem label_counts_eq (l : List GPair) : label_counts l = some (countsL l) := by
  unfold label_counts countsL
  rw [label_Sane_eq, callM_some]
  cases saneB l <;> rfl

end Go.Proofs.YtchlojabjmlodaaDoor.AM

/- Labels: the order, what is few. -/
namespace Go.Proofs.YtchlojabjmlodaaDoor.AM
open Go

theorem cmp_eq (a b : Str) : cmp_Compare_string a b = some (cmpS a b) := by
  unfold cmp_Compare_string cmp_isNaN_string cmpS
  simp only [letE_eq, retM_eq, decide_true, Bool.not_true, callM_some, iteM_false, iteM_if, Bool.false_eq_true, if_false]
  split
  · rfl
  · split <;> rfl
theorem cmp_Or_eq (a b : Int) : cmp_Or_int [a, b] = some (if a ≠ 0 then a else b) := by
  unfold cmp_Or_int
  simp only [letE_eq]
  refine (loopM_nat 2 (fun i => if i = 0 then (if a ≠ 0 then a else b) else if i = 1 then b else 0) ?_ ?_).trans (by simp)
  · intro i hi
    have h2 : i = 0 ∨ i = 1 := by omega
    rcases h2 with rfl | rfl
    · simp only [iteM_dec, iteM_not, idxM_get (show ([a, b] : List Int)[0]? = some a from rfl)]
      by_cases h : a = 0
      · right; simp [h, wI_of]
      · left; simp [h]
    · simp only [iteM_dec, iteM_not, idxM_get (show ([a, b] : List Int)[1]? = some b from rfl)]
      by_cases h : b = 0
      · right; simp [h, wI_of]
      · left; simp [h]
  · simp
theorem label_Compare_1_eq (p q : GPair) : label_Compare_1 p q = some (cmpP p q) := by
  unfold label_Compare_1
  simp only [drawM_eq, letE_eq]
  rw [cmp_eq, callM_some, cmp_eq, callM_some, cmp_Or_eq, callM_some]
  rfl
theorem cmpf_eq (a b : List GPair) (ha : a.length ≤ 16) (hb : b.length ≤ 16) : slices_CompareFunc_Pair_Pair_Pair_Pair_label_Compare_1 a b = some (cmpLs a b) := by
  unfold slices_CompareFunc_Pair_Pair_Pair_Pair_label_Compare_1
  simp only [letE_eq]
  refine (loopM_nat a.length (fun i => cmpLs (a.drop i) (b.drop i)) ?_ ?_).trans (by simp)
  · intro i hi
    simp only [iteM_dec, iteM_not, idxM_get (pr_get hi), label_Compare_1_eq, callM_some]
    rw [if_pos (by omega), drop_pr hi]
    by_cases hib : b.length ≤ i
    · left; rw [if_pos (by omega), List.drop_eq_nil_of_le hib]; simp [cmpLs]
    · rw [if_neg (by omega), idxM_get (pr_get (l := b) (by omega)), drop_pr (l := b) (by omega)]
      try simp only [iteM_dec]
      by_cases hc : cmpP (pr a i) (pr b i) = 0
      · right; rw [if_pos hc, wI_of (by omega)]; exact ⟨by simp, by simp [cmpLs, hc]⟩
      · left; rw [if_neg hc]; simp [cmpLs, hc]
  · try simp only [iteM_dec]
    rw [if_neg (by omega), List.drop_length]
    by_cases h : a.length < b.length
    · rw [if_pos (by omega), drop_pr (l := b) h]; simp [cmpLs]
    · rw [if_neg (by omega), List.drop_eq_nil_of_le (by omega)]; simp [cmpLs]
theorem label_Compare_eq (a b : List GPair) : label_Compare a b = some (compareL a b) := by
  unfold label_Compare
  rw [label_counts_eq, callM_some, label_counts_eq, callM_some, cmpf_eq _ _ (countsL_len _) (countsL_len _), callM_some]
  rfl

theorem ref03_Few_eq (l : List GPair) (h : l.length ≤ 9223372036854775807) : ref03_Few l = some (fewB l) := by
  unfold ref03_Few
  simp only [letE_eq]
  refine (loopM_natB l.length (fun i a => a = sumW l i) (fun _ _ => fewB l) ?_ ?_ rfl).trans rfl
  · rintro i a hi rfl
    right
    simp only [iteM_dec, idxM_get (pr_get hi)]
    rw [if_pos (by omega), wI_of (x := (i : Int) + 1) (by omega)]
    exact ⟨_, by simp; rfl, rfl, trivial⟩
  · rintro a rfl
    simp only [iteM_dec, bif_and]
    rw [if_neg (by omega), fewB, show decide ((l.length : Int) ≤ 40) = decide (l.length ≤ 40) from by rw [decide_eq_decide]; omega]
    rfl
end Go.Proofs.YtchlojabjmlodaaDoor.AM

/- Keys of labels. -/
namespace Go.Proofs.YtchlojabjmlodaaDoor.AM
open Go

def itoa (n : Nat) : Str := if n < 10 then [UInt8.ofNat (48 + n)] else [UInt8.ofNat (48 + n / 10), UInt8.ofNat (48 + n % 10)]
set_option maxRecDepth 100000 in
theorem itoa_all : (List.range 100).all (fun n => decide (strconv_Itoa1 (n : Int) = some (itoa n))) = true := by kernel_rfl
theorem itoa_eq {n : Nat} (h : n < 100) : strconv_Itoa1 (n : Int) = some (itoa n) := by
  have := List.all_eq_true.1 itoa_all n (List.mem_range.2 h)
  simpa using this
def part (s : Str) : Str := itoa s.length ++ ([32] ++ s)
def keyS : List GPair → Str
  | [] => []
  | p :: l => part p.Name ++ (part p.Value ++ keyS l)
theorem octs_append (a b : Str) : octs (a ++ b) = octs a ++ octs b := by simp [octs]

set_option maxRecDepth 100000 in
theorem itoa_nosp : (List.range 100).all (fun n => (itoa n).all fun b => b != 32) = true := by kernel_rfl
set_option maxRecDepth 100000 in
theorem itoa_injB : (List.range 100).all (fun n => (List.range 100).all fun m => decide (itoa n = itoa m → n = m)) = true := by kernel_rfl
theorem itoa_inj {n m : Nat} (hn : n < 100) (hm : m < 100) (h : itoa n = itoa m) : n = m := by
  have := List.all_eq_true.1 (List.all_eq_true.1 itoa_injB n (List.mem_range.2 hn)) m (List.mem_range.2 hm)
  exact (of_decide_eq_true this) h
theorem split_sp : ∀ {a b u v : Str}, (∀ x ∈ a, x ≠ 32) → (∀ x ∈ b, x ≠ 32) → a ++ 32 :: u = b ++ 32 :: v → a = b ∧ u = v
  | [], [], u, v, _, _, h => by simpa using h
  | [], y :: b, u, v, _, hb, h => by
    simp only [List.nil_append, List.cons_append, List.cons.injEq] at h
    exact absurd h.1.symm (hb y (by simp))
  | x :: a, [], u, v, ha, _, h => by
    simp only [List.nil_append, List.cons_append, List.cons.injEq] at h
    exact absurd h.1 (ha x (by simp))
  | x :: a, y :: b, u, v, ha, hb, h => by
    simp only [List.cons_append, List.cons.injEq] at h
    obtain ⟨e1, e2⟩ := split_sp (fun z hz => ha z (by simp [hz])) (fun z hz => hb z (by simp [hz])) h.2
    exact ⟨by rw [h.1, e1], e2⟩
theorem nosp {n : Nat} (h : n < 100) : ∀ x ∈ itoa n, x ≠ 32 := by
  have := List.all_eq_true.1 itoa_nosp n (List.mem_range.2 h)
  intro x hx
  have := List.all_eq_true.1 this x hx
  simpa using this
theorem part_inj {s t u v : Str} (hs : s.length < 100) (ht : t.length < 100) (h : part s ++ u = part t ++ v) : s = t ∧ u = v := by
  simp only [part, List.append_assoc, List.cons_append, List.nil_append] at h
  obtain ⟨e1, e2⟩ := split_sp (nosp hs) (nosp ht) h
  have e3 := itoa_inj hs ht e1
  exact List.append_inj e2 e3
theorem part_ne {s u : Str} : part s ++ u ≠ [] := by simp [part]
def Shorts (l : List GPair) : Prop := ∀ p ∈ l, p.Name.length < 100 ∧ p.Value.length < 100
theorem keyS_inj : ∀ {a b : List GPair}, Shorts a → Shorts b → keyS a = keyS b → a = b
  | [], [], _, _, _ => rfl
  | [], q :: b, _, _, h => absurd h.symm part_ne
  | p :: a, [], _, _, h => absurd h part_ne
  | p :: a, q :: b, ha, hb, h => by
    simp only [keyS] at h
    obtain ⟨e1, e2⟩ := part_inj (ha p (by simp)).1 (hb q (by simp)).1 h
    obtain ⟨e3, e4⟩ := part_inj (ha p (by simp)).2 (hb q (by simp)).2 e2
    have e5 := keyS_inj (fun x hx => ha x (by simp [hx])) (fun x hx => hb x (by simp [hx])) e4
    obtain ⟨n, v⟩ := p
    obtain ⟨n', v'⟩ := q
    simp only at e1 e3
    rw [e1, e3, e5]
theorem saneB_shorts {l : List GPair} (h : saneB l = true) : Shorts l := by
  obtain ⟨_, h2, h3, _⟩ := saneB_iff.1 h
  intro p hp
  have a := h2 p hp
  have b := h3 p hp
  constructor
  · by_cases hl : 64 < p.1.length
    · rw [nameB_len (.inr hl)] at a; cases a
    · show p.1.length < 100
      omega
  · show p.2.length < 100
    omega
theorem bldCheck_eq (l : List Int) : bldCheck l = some () := by rfl
end Go.Proofs.YtchlojabjmlodaaDoor.AM

/- Keys: the model. -/
namespace Go.Proofs.YtchlojabjmlodaaDoor.AM
open Go

@[simp] theorem callO_some {α β : Type} (ks : List Nat) (w : List Obj) (enc : α → AV) (ob : α → List Obj) (a : α) (m : α → Option β) : callO ks w enc ob (some a) m = m a := rfl
@[simp] theorem bldM_eq {β : Type} (b : Nat) (m : Option β) : bldM b m = m := rfl
@[simp] theorem tailM_eq {β : Type} (b : Nat) (m : Option β) : tailM b m = m := rfl
@[simp] theorem tailA_eq {β : Type} (a b c : Nat) (m : Option β) : tailA a b c m = m := rfl
@[simp] theorem exitM_inl {σ β : Type} (m : Option β) : exitM (σ := σ) m = m.map .inr := rfl
theorem ws_eq (s : Str) (a : List Int) (h : a.length + s.length ≤ 100000) : strings_Builder_WriteString_o s a = some ((s.length : Int), (), a ++ octs s) := by
  unfold strings_Builder_WriteString_o
  rw [bldCheck_eq, callO_some, gdM_pos (by rw [octs_length]; omega)]
  rfl
theorem wb_eq (c : Int) (a : List Int) (h : a.length ≤ 100000) : strings_Builder_WriteByte_o c a = some ((), a ++ [c]) := by
  unfold strings_Builder_WriteByte_o
  rw [bldCheck_eq, callO_some, letE_eq, gdM_pos (by simp; omega)]
  rfl
theorem itoa_len (n : Nat) : (itoa n).length ≤ 2 := by unfold itoa; split <;> simp
theorem part_len (s : Str) : (part s).length ≤ s.length + 3 := by
  have := itoa_len s.length
  simp only [part, List.length_append, List.length_cons, List.length_nil]; omega
theorem keyS_len {l : List GPair} (h : Shorts l) : (keyS l).length ≤ 206 * l.length := by
  induction l with
  | nil => simp [keyS]
  | cons p l ih =>
    have := ih (fun q hq => h q (by simp [hq]))
    have h1 := h p (by simp)
    have h2 := part_len p.Name
    have h3 := part_len p.Value
    simp only [keyS, List.length_append, List.length_cons]
    omega
theorem keyS_append (a b : List GPair) : keyS (a ++ b) = keyS a ++ keyS b := by
  induction a with
  | nil => simp [keyS]
  | cons p a ih => simp [keyS, ih]
theorem octs_part (s : Str) : octs (part s) = octs (itoa s.length) ++ [32] ++ octs s := by
  simp only [part, octs_append]
  simp [octs]

def prV (p : GPair) (j : Nat) : Str := if j = 0 then p.Name else p.Value
theorem table_key_eq {l : List GPair} (hs : Shorts l) (hl : l.length ≤ 40) : table_key l = some (keyS l) := by
  unfold table_key
  simp only [bldM_eq, letE_eq]
  refine (loopM_natB l.length (fun i a => a = octs (keyS (l.take i))) (fun _ _ => keyS l) ?_ ?_ rfl).trans rfl
  · rintro i a hi rfl
    right
    refine ⟨octs (keyS (l.take (i + 1))), ?_, rfl, rfl⟩
    simp only [iteM_dec, idxM_get (pr_get hi)]
    rw [if_pos (by omega)]
    have hp := hs (pr l i) (by rw [pr, List.getD_eq_getElem?_getD, List.getElem?_eq_getElem hi]; exact List.getElem_mem hi)
    have hk : (keyS (l.take i)).length ≤ 206 * 40 := by
      have := keyS_len (l := l.take i) (fun q hq => hs q (List.mem_of_mem_take hq))
      rw [List.length_take] at this
      omega
    have e : octs (keyS (l.take (i + 1))) = octs (keyS (l.take i)) ++ octs (part (pr l i).Name) ++ octs (part (pr l i).Value) := by
      rw [take_pr hi, keyS_append, octs_append]; simp [keyS, octs_append]
    rw [e]
    generalize keyS (l.take i) = k at *
    generalize pr l i = p at *
    obtain ⟨h1, h2⟩ := hp
    refine (loopM_natB 2 (fun j b => b = octs k ++ (if 1 ≤ j then octs (part p.Name) else []) ++ (if 2 ≤ j then octs (part p.Value) else [])) (fun _ _ => Sum.inl (octs k ++ octs (part p.Name) ++ octs (part p.Value), ((i + 1 : Nat) : Int))) ?_ ?_ (by simp)).trans ?_
    · rintro j b hj rfl
      right
      have hj2 : j = 0 ∨ j = 1 := by omega
      rcases hj2 with rfl | rfl
      · refine ⟨octs k ++ octs (part p.Name), ?_, by simp, rfl⟩
        have n1 := itoa_len p.Name.length
        simp only [iteM_dec]
        rw [if_pos (by omega), idxM_get (x := p.Name) rfl, itoa_eq h1, callM_some, ws_eq _ _ (by simp [octs_length]; omega), callO_some, wb_eq _ _ (by simp [octs_length]; omega), callO_some, ws_eq _ _ (by simp [octs_length]; omega), callO_some, wI_of (by omega), octs_part]
        simp
      · refine ⟨octs k ++ octs (part p.Name) ++ octs (part p.Value), ?_, by simp, rfl⟩
        have n1 := part_len p.Name
        have n2 := itoa_len p.Value.length
        simp only [iteM_dec]
        rw [if_pos (by omega), idxM_get (x := p.Value) rfl, itoa_eq h2, callM_some, ws_eq _ _ (by simp [octs_length]; omega), callO_some, wb_eq _ _ (by simp [octs_length]; omega), callO_some, ws_eq _ _ (by simp [octs_length]; omega), callO_some, wI_of (by omega), octs_part p.Value]
        simp
    · rintro b rfl
      simp only [iteM_dec]
      rw [if_neg (by omega), wI_of (by omega)]
      simp
    · rfl
  · rintro a rfl
    simp only [iteM_dec]
    rw [if_neg (by omega), List.take_length]
    have : bldStr (octs (keyS l)) = some (keyS l) := by
      unfold bldStr
      rw [gdM_pos, retM_eq, strOf_octs]
      intro x hx
      simp only [octs, List.mem_map] at hx
      obtain ⟨b, _, rfl⟩ := hx
      have := b.toNat_lt
      omega
    rw [this]; rfl
theorem key_eq {l : List GPair} (h : saneB l = true) : table_key l = some (keyS l) := table_key_eq (saneB_shorts h) (by have := (saneB_iff.1 h).1; omega)
theorem key_inj {a b : List GPair} (ha : saneB a = true) (hb : saneB b = true) : keyS a = keyS b ↔ a = b := ⟨keyS_inj (saneB_shorts ha) (saneB_shorts hb), fun h => by rw [h]⟩
end Go.Proofs.YtchlojabjmlodaaDoor.AM

/- Holds: the models in plain words. -/
namespace Go.Proofs.YtchlojabjmlodaaDoor.AM
open Go

def bd (x : Int) : Int := min (max x 0) 9007199254740992
theorem bd_ge (x : Int) : 0 ≤ bd x := by unfold bd; omega
theorem bd_le (x : Int) : bd x ≤ 9007199254740992 := by unfold bd; omega
@[simp] theorem bd_bd (x : Int) : bd (bd x) = bd x := by unfold bd; omega
def tmB (x : Int) : Bool := decide (0 ≤ x) && decide (x ≤ 9007199254740992)
theorem tmB_iff {x : Int} : tmB x = true ↔ 0 ≤ x ∧ x ≤ 9007199254740992 := by simp [tmB]
theorem tmB_bd (x : Int) : tmB (bd x) = true := tmB_iff.2 ⟨bd_ge x, bd_le x⟩
def holdB (h : GHold) : Bool := tmB h.Since && tmB h.Fired && (h.On || decide (h.Since = 0)) && (h.Hit || decide (h.Fired = 0))
def h0 : GHold := ⟨false, 0, false, 0⟩
def cntH (h : GHold) : GHold := if holdB h then h else h0

theorem hold_time_eq (x : Int) : hold_time x = some (tmB x) := by
  unfold hold_time
  simp only [letE_eq, bif_and]; rfl
theorem hold_Sane_eq (h : GHold) : hold_Sane h = some (holdB h) := by
  unfold hold_Sane holdB
  simp only [hold_time_eq, callM_some, letE_eq, iteM_not]
  cases tmB h.Since
  · rfl
  cases tmB h.Fired
  · rfl
  cases h.On <;> cases h.Hit <;> simp [iteM_if]
  · split <;> simp [*]
  · split <;> simp [*]
theorem hold_counted_eq (h : GHold) : hold_counted h = some (cntH h) := by
  unfold hold_counted cntH
  simp only [hold_Sane_eq, callM_some, letE_eq, iteM_not]
  cases holdB h <;> rfl
theorem cntH_ok (h : GHold) : holdB (cntH h) = true := by
  unfold cntH; split
  · assumption
  · rfl
theorem cntH_of {h : GHold} (hh : holdB h = true) : cntH h = h := if_pos hh
@[simp] theorem cntH_cntH (h : GHold) : cntH (cntH h) = cntH h := cntH_of (cntH_ok h)

theorem hold_bounded_eq {l : List Int} (h : l.length ≤ 1000) : hold_bounded l = some (l.map bd) := by
  unfold hold_bounded
  simp only [letE_eq]
  rw [gdM_pos (by omega)]
  simp only [letO_eq, Int.toNat_natCast]
  have hl : (List.replicate l.length (0 : Int)).length = l.length := by simp
  refine (loopM_natB l.length (fun i a => a = (l.take i).map bd ++ List.replicate (l.length - i) 0) (fun _ _ => l.map bd) ?_ ?_ (by simp)).trans rfl
  · rintro i a hi rfl
    right
    refine ⟨(l.take (i + 1)).map bd ++ List.replicate (l.length - (i + 1)) 0, ?_, rfl, rfl⟩
    simp only [iteM_dec]
    have hg : l[i]? = some l[i] := List.getElem?_eq_getElem hi
    have hlen : ((l.take i).map bd ++ List.replicate (l.length - i) (0 : Int)).length = l.length := by simp; omega
    rw [if_pos (by omega), idxM_get hg, gdM_pos (by rw [hl]; omega), gdM_pos (by rw [hlen]; omega), wI_of (by omega)]
    simp only [nextM_eq, Int.toNat_natCast]
    congr 3
    have e1 : l.length - i = (l.length - (i + 1)) + 1 := by omega
    have e2 : ((l.take i).map bd).length = i := by simp; omega
    rw [List.set_append, if_neg (by rw [e2]; omega), e1, List.replicate_succ, e2, Nat.sub_self, List.set_cons_zero, List.take_add_one, hg, List.map_append, List.append_assoc]
    rfl
  · rintro a rfl
    simp only [iteM_dec]
    rw [if_neg (by omega), List.take_length, Nat.sub_self, gdM_pos (by simp)]
    simp
def nowH (h : GHold) (n u : Int) : Int :=
  if h.Hit = true ∧ (h.Fired = n ∨ (0 < u ∧ h.Fired < n ∧ n - h.Fired < u)) then 2 else if h.On = true then 1 else 0
theorem holdB_iff {h : GHold} : holdB h = true ↔ (0 ≤ h.Since ∧ h.Since ≤ 9007199254740992) ∧ (0 ≤ h.Fired ∧ h.Fired ≤ 9007199254740992) ∧ (h.On = true ∨ h.Since = 0) ∧ (h.Hit = true ∨ h.Fired = 0) := by
  simp [holdB, tmB_iff, and_assoc]
theorem hold_Now_eq (h : GHold) (a u : Int) : hold_Now h a u = some (nowH (cntH h) (bd a) (bd u)) := by
  unfold hold_Now
  rw [hold_counted_eq, callM_some, letE_eq, hold_bounded_eq (by simp), callM_some, idxM_of (x := bd a) (by omega) rfl, idxM_of (x := bd u) (by omega) rfl]
  have hk := holdB_iff.1 (cntH_ok h)
  have b1 := bd_ge a; have b2 := bd_le a; have b3 := bd_ge u; have b4 := bd_le u
  generalize cntH h = k at *
  generalize bd a = n at *
  generalize bd u = w at *
  rw [wI_of (by omega)]
  simp only [letE_eq, retM_eq]
  unfold nowH
  cases hH : k.Hit <;> cases hO : k.On <;> by_cases e1 : 0 < w <;> by_cases e2 : k.Fired < n <;> by_cases e3 : k.Fired = n <;> by_cases e4 : n - k.Fired < w <;> simp [e1, e2, e3, e4, iteM_if] <;> omega

def stepG (h : GHold) (hit : Bool) (n d : Int) : GHold :=
  if hit = false then ⟨false, 0, h.Hit, h.Fired⟩
  else if h.On = false ∨ n < h.Since then (if d ≤ 0 then ⟨true, n, true, n⟩ else ⟨true, n, h.Hit, h.Fired⟩)
  else if d ≤ n - h.Since then ⟨true, h.Since, true, n⟩ else ⟨true, h.Since, h.Hit, h.Fired⟩
def stepH (h : GHold) (hit : Bool) (now d u : Int) : GHold × Int :=
  let g := stepG (cntH h) hit (bd now) (bd d)
  (g, nowH g (bd now) (bd u))
theorem stepG_ok {h : GHold} {hit : Bool} {n d : Int} (hh : holdB h = true) (hn : tmB n = true) : holdB (stepG h hit n d) = true := by
  have a := holdB_iff.1 hh
  have b := tmB_iff.1 hn
  apply holdB_iff.2
  unfold stepG
  obtain ⟨a1, a2, a3, a4⟩ := a
  repeat' split
  all_goals (refine ⟨?_, ?_, ?_, ?_⟩ <;> first | exact a4 | exact a2 | exact a1 | exact b | (simp; done) | (simp only []; omega))
theorem hold_Step_eq (h : GHold) (hit : Bool) (now d u : Int) : hold_Step h hit now d u = some (stepH h hit now d u) := by
  unfold hold_Step
  rw [hold_counted_eq, callM_some, letE_eq, hold_bounded_eq (by simp), callM_some, idxM_of (x := bd now) (by omega) rfl, idxM_of (x := bd d) (by omega) rfl, idxM_of (x := bd u) (by omega) rfl]
  have hk := holdB_iff.1 (cntH_ok h)
  have b1 := bd_ge now; have b2 := bd_le now
  have hok := fun t => stepG_ok (h := cntH h) (hit := t) (n := bd now) (d := bd d) (cntH_ok h) (tmB_bd now)
  unfold stepH
  simp only [letE_eq, tailM_eq, hold_Now_eq, callM_some, retM_eq, bd_bd, iteM_not]
  generalize cntH h = k at *
  have hok' := hok hit
  have e0 : wI (bd now - bd now) = 0 := by rw [wI_of (by omega)]; omega
  have e1 : wI (bd now - k.Since) = bd now - k.Since := wI_of (by omega)
  rw [e0, e1]
  unfold stepG at hok' ⊢
  cases hit with
  | false =>
    simp only [if_true] at hok'
    simp only [iteM_false, if_true, cntH_of hok']
  | true =>
    cases hO : k.On with
    | false =>
      by_cases e2 : bd d ≤ 0
      · simp [hO, e2] at hok'
        simp [e2, cntH_of hok']
      · simp [hO, e2] at hok'
        simp [e2, cntH_of hok']
    | true =>
      by_cases e3 : bd now < k.Since
      · by_cases e2 : bd d ≤ 0
        · simp [hO, e2, e3] at hok'
          simp [e2, e3, cntH_of hok']
        · simp [hO, e2, e3] at hok'
          simp [e2, e3, cntH_of hok']
      · by_cases e2 : bd d ≤ bd now - k.Since
        · simp [hO, e2, e3] at hok'
          simp [e2, e3, cntH_of hok']
        · simp [hO, e2, e3] at hok'
          simp [e2, e3, cntH_of hok']
def goneH (h : GHold) (n u : Int) : Bool := decide (nowH h n u = 0) && !h.On && (!h.Hit || (decide (h.Fired < n) && decide (u ≤ n - h.Fired)))
theorem hold_Gone_eq (h : GHold) (a u : Int) : hold_Gone h a u = some (goneH (cntH h) (bd a) (bd u)) := by
  unfold hold_Gone
  rw [hold_counted_eq, callM_some, letE_eq, hold_bounded_eq (by simp), callM_some, idxM_of (x := bd a) (by omega) rfl, idxM_of (x := bd u) (by omega) rfl]
  have hk := holdB_iff.1 (cntH_ok h)
  have b1 := bd_ge a; have b2 := bd_le a
  rw [hold_Now_eq, callM_some, cntH_cntH, bd_bd, bd_bd]
  have e1 : wI (bd a - (cntH h).Fired) = bd a - (cntH h).Fired := wI_of (by omega)
  simp only [letE_eq, retM_eq, iteM_not, iteM_dec, e1]
  unfold goneH
  generalize cntH h = k at *
  by_cases e2 : nowH k (bd a) (bd u) = 0
  · rw [if_pos e2]
    cases hO : k.On <;> cases hH : k.Hit <;> by_cases e3 : k.Fired < bd a <;> simp [e2, e3]
  · rw [if_neg e2]; simp [e2]
end Go.Proofs.YtchlojabjmlodaaDoor.AM

/- Tables: what is sane, found, active. -/
namespace Go.Proofs.YtchlojabjmlodaaDoor.AM
open Go

section
variable {α : Type} [Inhabited α]
def nth (l : List α) (k : Nat) : α := l.getD k default
theorem nth_get {l : List α} {k : Nat} (h : k < l.length) : l[k]? = some (nth l k) := by
  rw [nth, List.getD_eq_getElem?_getD, List.getElem?_eq_getElem h]; rfl
theorem nth_mem {l : List α} {k : Nat} (h : k < l.length) : nth l k ∈ l := by
  rw [nth, List.getD_eq_getElem?_getD, List.getElem?_eq_getElem h]; exact List.getElem_mem h
theorem drop_nth {l : List α} {k : Nat} (hk : k < l.length) : l.drop k = nth l k :: l.drop (k + 1) := by
  have hp := nth_get hk
  rw [List.drop_eq_getElem_cons hk]
  congr 1
  rw [List.getElem?_eq_getElem hk] at hp
  exact Option.some.inj hp
theorem take_nth {l : List α} {k : Nat} (hk : k < l.length) : l.take (k + 1) = l.take k ++ [nth l k] := by
  rw [List.take_add_one, nth_get hk]; rfl
end
theorem countsL_sane {l : List GPair} (h : saneB l = true) : countsL l = l := by rw [countsL, if_pos h]
theorem compareL_sane {a b : List GPair} (ha : saneB a = true) (hb : saneB b = true) : compareL a b = cmpLs a b := by rw [compareL, countsL_sane ha, countsL_sane hb]

def alOk (a : GAlert) : Bool := saneB a.L && holdB a.H && decide (0 ≤ a.State) && decide (a.State ≤ 2)
def tabAt (l : List GAlert) (i : Nat) : Bool := alOk (nth l i) && (decide (i = 0) || decide (compareL (nth l (i - 1)).L (nth l i).L < 0))
def cap : Int := 9007199254740992
def tabB (t : GTable) : Bool := decide (t.A.length ≤ 16) && decide (0 ≤ t.Full) && decide (t.Full ≤ cap) && (List.range t.A.length).all (tabAt t.A)
def t0 : GTable := ⟨[], 0⟩
def cntT (t : GTable) : GTable := if tabB t then t else t0
theorem table_Sane_eq (t : GTable) : table_Sane t = some (tabB t) := by
  unfold table_Sane tabB
  simp only [letE_eq, iteM_dec]
  by_cases h1 : 16 < t.A.length
  · rw [if_pos (by omega), decide_eq_false (by omega)]; rfl
  rw [if_neg (by omega), decide_eq_true (show t.A.length ≤ 16 by omega)]
  by_cases h2 : t.Full < 0
  · rw [if_pos h2, decide_eq_false (show ¬ 0 ≤ t.Full by omega)]; rfl
  rw [if_neg h2, decide_eq_true (show 0 ≤ t.Full by omega)]
  by_cases h3 : 9007199254740992 < t.Full
  · rw [if_pos h3, decide_eq_false (show ¬ t.Full ≤ cap by unfold cap; omega)]; rfl
  rw [if_neg h3, decide_eq_true (show t.Full ≤ cap by unfold cap; omega)]
  refine (loopM_nat t.A.length (fun i => (List.range t.A.length).all fun j => decide (j < i) || tabAt t.A j) ?_ ?_).trans ?_
  rotate_right
  · rw [all_zero]; rfl
  · intro i hi
    simp only [iteM_dec, idxM_get (nth_get hi), label_Sane_eq, callM_some, iteM_not, hold_Sane_eq, drawM_eq]
    rw [if_pos (by omega)]
    cases e1 : saneB (nth t.A i).L
    · left; simp [all_bad hi (show tabAt t.A i = false by simp [tabAt, alOk, e1])]
    cases e2 : holdB (nth t.A i).H
    · left; simp [all_bad hi (show tabAt t.A i = false by simp [tabAt, alOk, e2])]
    simp only [iteM_true]
    by_cases e3 : (nth t.A i).State < 0
    · left; rw [if_pos e3]; simp [all_bad hi (show tabAt t.A i = false by simp [tabAt, alOk, show ¬ 0 ≤ (nth t.A i).State by omega])]
    rw [if_neg e3]
    by_cases e4 : 2 < (nth t.A i).State
    · left; rw [if_pos e4]; simp [all_bad hi (show tabAt t.A i = false by simp [tabAt, alOk, show ¬ (nth t.A i).State ≤ 2 by omega])]
    rw [if_neg e4]
    have e5 : alOk (nth t.A i) = true := by simp [alOk, e1, e2]; omega
    by_cases h0 : i = 0
    · right
      subst h0
      rw [if_neg (by omega), wI_of (by omega)]
      exact ⟨by simp [wI_of], all_lt (by simp [tabAt, e5])⟩
    · rw [if_pos (by omega), wI_of (x := (i : Int) - 1) (by omega), idxM_of (x := nth t.A (i - 1)) (by omega) (by rw [show ((i : Int) - 1).toNat = i - 1 from by omega]; exact nth_get (by omega)), label_Compare_eq, callM_some]
      by_cases e6 : 0 ≤ compareL (nth t.A (i - 1)).L (nth t.A i).L
      · left; rw [if_pos e6]; simp [all_bad hi (show tabAt t.A i = false by simp [tabAt, h0, e6])]
      · right; rw [if_neg e6, wI_of (by omega)]
        exact ⟨by simp, all_lt (by simp [tabAt, e5]; omega)⟩
  · try simp only [iteM_dec]
    rw [if_neg (by omega)]
    simp [all_end]
theorem table_counted_eq (t : GTable) : table_counted t = some (cntT t) := by
  unfold table_counted cntT
  simp only [table_Sane_eq, callM_some, letE_eq, iteM_not]
  cases tabB t <;> rfl
theorem cntT_ok (t : GTable) : tabB (cntT t) = true := by
  unfold cntT; split
  · assumption
  · rfl
theorem cntT_of {t : GTable} (h : tabB t = true) : cntT t = t := if_pos h

structure TabOk (t : GTable) : Prop where
  len : t.A.length ≤ 16
  full : 0 ≤ t.Full ∧ t.Full ≤ cap
  each : ∀ a ∈ t.A, alOk a = true
  asc : t.A.Pairwise fun p q => cmpLs p.L q.L < 0
theorem alOk_sane {a : GAlert} (h : alOk a = true) : saneB a.L = true := by
  simp only [alOk, Bool.and_eq_true] at h; exact h.1.1.1
theorem cmpLs_lt {a b c : List GPair} (h : cmpLs a b < 0) (k : cmpLs b c < 0) : cmpLs a c < 0 := by
  have o := cmpLs_ord
  rcases Int.lt_or_eq_of_le (o.trans a b c (by omega) (by omega)) with h' | h'
  · exact h'
  · have := (o.zero a c).1 h'
    subst this
    have := o.anti a b
    omega
theorem pairwise_of_adj {α : Type} [Inhabited α] {R : α → α → Prop} (ht : ∀ a b c, R a b → R b c → R a c) : ∀ {l : List α}, (∀ i, i + 1 < l.length → R (nth l i) (nth l (i + 1))) → l.Pairwise R
  | [], _ => .nil
  | [a], _ => List.pairwise_singleton R a
  | a :: b :: l, h => by
    have ih := pairwise_of_adj ht (l := b :: l) fun i hi => h (i + 1) (by simpa using hi)
    rw [List.pairwise_cons]
    refine ⟨fun x hx => ?_, ih⟩
    have hab : R a b := h 0 (by simp)
    rcases List.mem_cons.1 hx with rfl | hx
    · exact hab
    · exact ht a b x hab ((List.pairwise_cons.1 ih).1 x hx)
theorem pairwise_nth {α : Type} [Inhabited α] {R : α → α → Prop} {l : List α} (h : l.Pairwise R) {i j : Nat} (hij : i < j) (hj : j < l.length) : R (nth l i) (nth l j) := by
  have := List.pairwise_iff_getElem.1 h i j (by omega) hj hij
  simpa [nth, List.getD_eq_getElem?_getD, List.getElem?_eq_getElem hj, List.getElem?_eq_getElem (show i < l.length by omega)] using this
theorem mem_nth {α : Type} [Inhabited α] {l : List α} {x : α} (h : x ∈ l) : ∃ i, i < l.length ∧ nth l i = x := by
  obtain ⟨i, hi, rfl⟩ := List.getElem_of_mem h
  exact ⟨i, hi, by simp [nth, List.getD_eq_getElem?_getD, List.getElem?_eq_getElem hi]⟩
theorem tabB_iff {t : GTable} : tabB t = true ↔ TabOk t := by
  constructor
  · intro h
    simp only [tabB, Bool.and_eq_true, decide_eq_true_eq, List.all_eq_true, List.mem_range] at h
    obtain ⟨⟨⟨h1, h2⟩, h3⟩, h4⟩ := h
    have he : ∀ a ∈ t.A, alOk a = true := by
      intro a ha
      obtain ⟨i, hi, rfl⟩ := mem_nth ha
      have := h4 i hi
      simp only [tabAt, Bool.and_eq_true] at this
      exact this.1
    refine ⟨h1, ⟨h2, h3⟩, he, pairwise_of_adj (R := fun p q : GAlert => cmpLs p.L q.L < 0) (fun _ _ _ h k => cmpLs_lt h k) fun i hi => ?_⟩
    have := h4 (i + 1) hi
    simp only [tabAt, Bool.and_eq_true, Bool.or_eq_true, decide_eq_true_eq, Nat.add_sub_cancel, Nat.add_eq_zero_iff, Nat.one_ne_zero, and_false, false_or] at this
    rw [compareL_sane (alOk_sane (he _ (nth_mem (by omega)))) (alOk_sane (he _ (nth_mem hi)))] at this
    exact this.2
  · rintro ⟨h1, ⟨h2, h3⟩, h4, h5⟩
    simp only [tabB, Bool.and_eq_true, decide_eq_true_eq, List.all_eq_true, List.mem_range]
    refine ⟨⟨⟨h1, h2⟩, h3⟩, fun i hi => ?_⟩
    simp only [tabAt, Bool.and_eq_true, Bool.or_eq_true, decide_eq_true_eq]
    refine ⟨h4 _ (nth_mem hi), ?_⟩
    by_cases h0 : i = 0
    · exact .inl h0
    · right
      rw [compareL_sane (alOk_sane (h4 _ (nth_mem (by omega)))) (alOk_sane (h4 _ (nth_mem hi)))]
      exact pairwise_nth h5 (by omega) hi

def zA : GAlert := ⟨[], h0, 0, 0⟩
def findA (A : List GAlert) (l : List GPair) : GAlert × Bool := match A.find? (fun a => decide (a.L = l)) with | some a => (a, true) | none => (zA, false)
theorem compareL_zero {a b : List GPair} (ha : saneB a = true) (hb : saneB b = true) : compareL a b = 0 ↔ a = b := by rw [compareL_sane ha hb]; exact cmpLs_ord.zero a b
end Go.Proofs.YtchlojabjmlodaaDoor.AM

/- Maps by key; what is found, once each; the sort. -/
namespace Go.Proofs.YtchlojabjmlodaaDoor.AM
open Go

theorem loopM_ix {σ β : Type} {ph : σ → List (Nat × AV)} {ob : σ → List Obj} {step : σ → Option (σ ⊕ β)} (ix : σ → Int) (St : Nat → σ) (n : Nat) (r : β) (hix : ∀ i, ix (St i) = (i : Int))
    (h1 : ∀ i, i < n → step (St i) = some (.inl (St (i + 1)))) (h2 : step (St n) = some (.inr r)) {s : σ} (hs : s = St 0) : loopM ph ob step s = some r := by
  subst hs
  refine loopM_rec (ph := ph) (ob := ob) (step := step) (fun s => ∃ i, i ≤ n ∧ s = St i) (fun s => (n - ix s).toNat) (fun _ => r) ?_ ⟨0, Nat.zero_le _, rfl⟩
  rintro s ⟨i, hi, rfl⟩
  rcases Nat.lt_or_ge i n with hk | hk
  · right
    refine ⟨St (i + 1), h1 i hk, ⟨i + 1, by omega, rfl⟩, ?_, rfl⟩
    simp only [hix]; omega
  · have : i = n := by omega
    subst this
    exact .inl h2

section
variable {α : Type} {lab : α → List GPair}
def enk (lab : α → List GPair) (acc : List α) : List (Str × α) := acc.map fun x => (keyS (lab x), x)
def Sanes (lab : α → List GPair) (acc : List α) : Prop := ∀ x ∈ acc, saneB (lab x) = true
theorem mlk_enk {acc : List α} {l : List GPair} (hs : Sanes lab acc) (hl : saneB l = true) : mlk (enk lab acc) (keyS l) = acc.find? fun x => decide (lab x = l) := by
  induction acc with
  | nil => rfl
  | cons a acc ih =>
    have hk := key_inj hl (hs a (by simp))
    simp only [enk, List.map_cons, mlk, List.find?_cons]
    by_cases e : lab a = l
    · rw [if_pos (by rw [e]), decide_eq_true e]
    · rw [if_neg (fun h => e (hk.1 h).symm), decide_eq_false e]
      exact ih fun x hx => hs x (by simp [hx])
theorem mst_enk {acc : List α} {l : List GPair} {y : α} (hs : Sanes lab acc) (hl : saneB l = true) (hn : ∀ x ∈ acc, lab x ≠ l) : mst (enk lab acc) (keyS l) y = enk lab acc ++ [(keyS l, y)] := by
  induction acc with
  | nil => rfl
  | cons a acc ih =>
    have hk := key_inj hl (hs a (by simp))
    have e := hn a (by simp)
    simp only [enk, List.map_cons, mst]
    rw [if_neg (fun h => e (hk.1 h).symm)]
    simp only [List.cons_append]
    congr 1
    exact ih (fun x hx => hs x (by simp [hx])) fun x hx => hn x (by simp [hx])
theorem mdl_enk {acc : List α} {l : List GPair} {y : α} (hs : Sanes lab acc) (hl : saneB l = true) (hn : ∀ x ∈ acc, lab x ≠ l) : mdl (enk lab acc ++ [(keyS l, y)]) (keyS l) = enk lab acc := by
  induction acc with
  | nil => simp [enk, mdl]
  | cons a acc ih =>
    have hk := key_inj hl (hs a (by simp))
    have e := hn a (by simp)
    simp only [enk, List.map_cons, List.cons_append, mdl]
    rw [if_neg (fun h => e (hk.1 h).symm)]
    congr 1
    exact ih (fun x hx => hs x (by simp [hx])) fun x hx => hn x (by simp [hx])
theorem enk_snoc {acc : List α} {y : α} {l : List GPair} (h : lab y = l) : enk lab acc ++ [(keyS l, y)] = enk lab (acc ++ [y]) := by simp [enk, h]
theorem enk_length (acc : List α) : (enk lab acc).length = acc.length := by simp [enk]
theorem Sanes.snoc {acc : List α} {y : α} (hs : Sanes lab acc) (h : saneB (lab y) = true) : Sanes lab (acc ++ [y]) := by
  intro x hx
  rcases List.mem_append.1 hx with hx | hx
  · exact hs x hx
  · rw [List.mem_singleton] at hx; subst hx; exact h
theorem find_none {acc : List α} {l : List GPair} (h : acc.find? (fun x => decide (lab x = l)) = none) : ∀ x ∈ acc, lab x ≠ l := by
  intro x hx e
  have := List.find?_eq_none.1 h x hx
  simp [e] at this
end

def addD (acc : List GFound) (x : GFound) : List GFound := if saneB x.L then (if (acc.find? fun y => decide (y.L = x.L)).isSome then acc else acc ++ [x]) else acc
def dist (f : List GFound) : List GFound := f.foldl addD []
theorem foldl_take {α β : Type} [Inhabited α] {f : β → α → β} {b : β} {l : List α} {i : Nat} (h : i < l.length) : (l.take (i + 1)).foldl f b = f ((l.take i).foldl f b) (nth l i) := by
  rw [take_nth h, List.foldl_append]; rfl
theorem addD_sane {acc : List GFound} (h : Sanes GFound.L acc) (x : GFound) : Sanes GFound.L (addD acc x) := by
  unfold addD
  split
  · split
    · exact h
    · exact h.snoc (by assumption)
  · exact h
theorem foldl_sane : ∀ (f : List GFound) {acc : List GFound}, Sanes GFound.L acc → Sanes GFound.L (f.foldl addD acc)
  | [], _, h => h
  | x :: f, _, h => foldl_sane f (addD_sane h x)
theorem dist_sane (f : List GFound) : Sanes GFound.L (dist f) := foldl_sane f (fun x hx => by cases hx)
theorem addD_len (acc : List GFound) (x : GFound) : (addD acc x).length ≤ acc.length + 1 := by
  unfold addD
  repeat' split
  all_goals simp
theorem foldl_len : ∀ (f : List GFound) (acc : List GFound), (f.foldl addD acc).length ≤ acc.length + f.length
  | [], _ => by simp
  | x :: f, acc => by
    have := foldl_len f (addD acc x)
    have := addD_len acc x
    simp only [List.foldl_cons, List.length_cons]; omega
theorem table_distinct_eq {f : List GFound} (h : f.length ≤ 1000) : table_distinct f = some (dist f, enk GFound.L (dist f)) := by
  unfold table_distinct
  simp only [letO_eq, letE_eq, tokM_eq]
  refine loopM_ix (fun s => s.2.1) (fun i => (enk GFound.L (dist (f.take i)), (i : Int), dist (f.take i))) f.length _ (fun _ => rfl) ?_ ?_ (by simp [dist, enk])
  · intro i hi
    simp only [iteM_dec, idxM_get (nth_get hi), label_Sane_eq, callM_some, iteM_not]
    rw [if_pos (by omega), show dist (f.take (i + 1)) = addD (dist (f.take i)) (nth f i) from foldl_take hi, wI_of (by omega)]
    have hs := dist_sane (f.take i)
    have hlen : (dist (f.take i)).length ≤ i := by
      have := foldl_len (f.take i) []
      rw [List.length_take] at this
      simp only [List.length_nil] at this
      unfold dist; omega
    generalize dist (f.take i) = a at *
    generalize nth f i = x at *
    unfold addD
    cases e : saneB x.L
    · simp
    · simp only [iteM_true, if_true]
      rw [key_eq e, callM_some]
      unfold lookM
      rw [mlk_enk hs e]
      cases e2 : a.find? (fun y => decide (y.L = x.L)) with
      | some y => simp
      | none =>
        have hn := find_none e2
        simp only [Bool.not_false, iteM_true]
        rw [mst_enk hs e hn, enk_snoc rfl, gdM_pos (by simp; omega)]
        simp
  · simp only [iteM_dec]
    rw [if_neg (by omega), List.take_length]
    simp

def altB (p q : GAlert) : Bool := decide (cmpLs p.L q.L < 0)
def insAl (p : GAlert) : List GAlert → List GAlert
  | [] => [p]
  | q :: l => if altB p q then p :: q :: l else q :: insAl p l
def sortA : List GAlert → List GAlert
  | [] => []
  | p :: l => insAl p (sortA l)
theorem insA_perm (p : GAlert) : ∀ l, (insAl p l).Perm (p :: l)
  | [] => .refl _
  | q :: l => by
    unfold insAl
    split
    · exact .refl _
    · exact ((insA_perm p l).cons q).trans (.swap p q l)
theorem sortA_perm : ∀ l, (sortA l).Perm l
  | [] => .refl _
  | p :: l => (insA_perm p _).trans ((sortA_perm l).cons p)
def AscA (l : List GAlert) : Prop := l.Pairwise fun p q => cmpLs p.L q.L < 0
def Apart (l : List GAlert) : Prop := l.Pairwise fun p q => p.L ≠ q.L
theorem Apart.perm {l m : List GAlert} (h : Apart l) (hp : m.Perm l) : Apart m := by
  refine List.Pairwise.perm h hp.symm fun h => ?_
  exact fun e => h e.symm
theorem cmp_flip {p q : List GPair} (h : ¬ cmpLs p q < 0) (hn : p ≠ q) : cmpLs q p < 0 := by
  have o := cmpLs_ord
  have a := o.anti p q
  have z := o.zero p q
  have : cmpLs p q ≠ 0 := fun h => hn (z.1 h)
  omega
theorem insA_asc {p : GAlert} : ∀ {l : List GAlert}, AscA l → (∀ q ∈ l, p.L ≠ q.L) → AscA (insAl p l)
  | [], _, _ => List.pairwise_singleton _ _
  | q :: l, h, hn => by
    obtain ⟨h1, h2⟩ := List.pairwise_cons.1 h
    unfold insAl
    split
    · rename_i hb
      have hb : cmpLs p.L q.L < 0 := of_decide_eq_true hb
      exact List.pairwise_cons.2 ⟨fun x hx => by
        rcases List.mem_cons.1 hx with rfl | hx
        · exact hb
        · exact cmpLs_lt hb (h1 x hx), h⟩
    · rename_i hb
      have hb : ¬ cmpLs p.L q.L < 0 := fun h => hb (decide_eq_true h)
      refine List.pairwise_cons.2 ⟨fun x hx => ?_, insA_asc h2 fun x hx => hn x (by simp [hx])⟩
      rcases List.mem_cons.1 ((insA_perm p l).mem_iff.1 hx) with rfl | hx
      · exact cmp_flip hb (hn q (by simp))
      · exact h1 x hx
theorem sortA_asc : ∀ {l : List GAlert}, Apart l → AscA (sortA l)
  | [], _ => List.Pairwise.nil
  | p :: l, h => by
    obtain ⟨h1, h2⟩ := List.pairwise_cons.1 h
    exact insA_asc (sortA_asc h2) fun q hq => h1 q ((sortA_perm l).mem_iff.1 hq)
theorem asc_eq {l m : List GAlert} (hl : AscA l) (hm : AscA m) (hp : l.Perm m) : l = m :=
  hp.eq_of_pairwise (fun a b _ _ h k => by
    have := cmpLs_ord.anti a.L b.L
    omega) hl hm
theorem sortA_eq {l m : List GAlert} (hl : Apart l) (hp : m.Perm l) : sortA m = sortA l :=
  asc_eq (sortA_asc (hl.perm hp)) (sortA_asc hl) ((sortA_perm m).trans (hp.trans (sortA_perm l).symm))
theorem sortA_of {l : List GAlert} (h : AscA l) : sortA l = l := by
  refine asc_eq (sortA_asc (h.imp fun {a b} hab e => ?_)) h (sortA_perm l)
  have := (cmpLs_ord.zero a.L b.L).2 e
  omega
end Go.Proofs.YtchlojabjmlodaaDoor.AM

/- The table's step. -/
namespace Go.Proofs.YtchlojabjmlodaaDoor.AM
open Go

theorem table_sorted_1_eq (p q : GAlert) : table_sorted_1 p q = some (compareL p.L q.L) := by
  unfold table_sorted_1
  rw [label_Compare_eq, callM_some]; rfl
theorem sorted_eq {l : List GAlert} (hs : Sanes GAlert.L l) (ha : Apart l) (hl : l.length ≤ 1000) {β : Type} {m : List GAlert → Option β} : sortM table_sorted_1 l m = m (sortA l) ∨ m (sortA l) = none := by
  cases hm : m (sortA l) with
  | none => exact .inr rfl
  | some y =>
    left
    have o := cmpLs_ord
    refine sortM_eq (fun p q => compareL p.L q.L) ⟨fun p _ q _ => table_sorted_1_eq p q, fun p _ => ?_, fun p _ q _ r _ h1 h2 => cmpLs_lt h1 h2, fun p _ q _ r _ h1 h2 => ?_, by omega⟩ ?_
    · have := (o.zero (countsL p.L) (countsL p.L)).2 rfl
      simp only [compareL]; omega
    · simp only [compareL] at *
      have e1 := o.anti (countsL p.L) (countsL q.L)
      have e2 := o.anti (countsL q.L) (countsL r.L)
      have e3 := o.anti (countsL p.L) (countsL r.L)
      have := o.trans (countsL r.L) (countsL q.L) (countsL p.L) (by omega) (by omega)
      omega
    · intro l' hp hp'
      have : l' = sortA l := by
        refine asc_eq ?_ (sortA_asc ha) (hp.trans (sortA_perm l).symm)
        have h2 := (ha.perm hp)
        refine (List.Pairwise.and hp' h2).imp_of_mem fun {a b} hma hmb hab => ?_
        rw [compareL_sane (hs b (hp.mem_iff.1 hmb)) (hs a (hp.mem_iff.1 hma))] at hab
        exact cmp_flip hab.1 (fun e => hab.2 e.symm) |> fun h => h
      rw [this, hm]
theorem rng_eq {β : Type} {step : List GAlert → ((Str × GAlert) → Option (List GAlert ⊕ β)) × Option (List GAlert ⊕ β)} (n : Nat) (h : ∀ a e, a.length < n → (step a).1 e = some (.inl (a ++ [e.2]))) : ∀ (es : List (Str × GAlert)) (a : List GAlert), a.length + es.length ≤ n → rngIter step es a = (step (a ++ es.map (·.2))).2.bind (Sum.elim (fun _ => none) some)
  | [], a, _ => by simp [rngIter]
  | e :: es, a, hl => by
    simp only [List.length_cons] at hl
    simp only [rngIter, h a e (by omega), Option.bind_some, Sum.elim_inl]
    rw [rng_eq n h es (a ++ [e.2]) (by simp; omega)]
    simp
theorem table_sorted_eq {l : List GAlert} (hs : Sanes GAlert.L l) (ha : Apart l) (hl : l.length ≤ 1000) : table_sorted_o (enk GAlert.L l) = some (sortA l) := by
  unfold table_sorted_o
  rw [tokM_eq]
  refine rangeM_eq ⟨fun _ _ _ _ _ _ => rfl, fun _ _ _ _ => rfl⟩ fun es' hp => ?_
  have hlen : es'.length = l.length := by rw [hp.length_eq, enk_length]
  have hp2 : (es'.map (·.2)).Perm l := by
    have := hp.map (·.2)
    simpa [enk, Function.comp_def] using this
  rw [rng_eq 1000 ?_ es' [] (by simp; omega)]
  · have hs' : Sanes GAlert.L (es'.map (·.2)) := fun x hx => hs x (hp2.mem_iff.1 hx)
    have := sorted_eq hs' (ha.perm hp2) (by simp; omega) (m := fun x => some x)
    simp only [bareR, List.nil_append]
    have e : sortM table_sorted_1 (es'.map (·.2)) (fun x5 => pubbM 3 <| retM x5) = some (sortA l) := by
      rcases sorted_eq hs' (ha.perm hp2) (by simp; omega) (m := fun x5 => pubbM 3 <| retM x5) with h | h
      · rw [h, sortA_eq ha hp2]; rfl
      · cases h
    show ((exitM (sortM table_sorted_1 (es'.map (·.2)) (fun x5 => pubbM 3 <| retM x5))).bind _) = _
    rw [e]; rfl
  · intro a e hlt
    simp only [bareR, letE_eq, letO_eq]
    rw [gdM_pos (by simp; omega)]; rfl

/-! ### the step -/
def keepA (D : List GFound) (now d u : Int) (a : GAlert) : Option GAlert :=
  let hit := D.find? fun x => decide (x.L = a.L)
  let s := stepH a.H hit.isSome now d u
  if goneH s.1 (bd now) (bd u) then none else some ⟨a.L, s.1, s.2, match hit with | some x => x.X.V | none => a.V⟩
def fresh (now d u : Int) (x : GFound) : GAlert := ⟨x.L, (stepH h0 true now d u).1, (stepH h0 true now d u).2, x.X.V⟩
def addS (now d u : Int) (s : Int × List GAlert) (x : GFound) : Int × List GAlert :=
  if (s.2.find? fun y => decide (y.L = x.L)).isSome then s else if 16 ≤ s.2.length then (min (s.1 + 1) cap, s.2) else (s.1, s.2 ++ [fresh now d u x])
def keptL (D : List GFound) (now d u : Int) (A : List GAlert) : List GAlert := A.filterMap (keepA D now d u)
def stepS (T : GTable) (D : List GFound) (now d u : Int) : Int × List GAlert := D.foldl (addS now d u) (T.Full, keptL D now d u T.A)
def stepT (t : GTable) (f : List GFound) (now d u : Int) : GTable := ⟨sortA (stepS (cntT t) (dist f) now d u).2, (stepS (cntT t) (dist f) now d u).1⟩

theorem stepH_ok (h : GHold) (hit : Bool) (now d u : Int) : holdB (stepH h hit now d u).1 = true := stepG_ok (cntH_ok h) (tmB_bd now)
theorem Gone_step (h : GHold) (hit : Bool) (now d u : Int) : hold_Gone (stepH h hit now d u).1 now u = some (goneH (stepH h hit now d u).1 (bd now) (bd u)) := by rw [hold_Gone_eq, cntH_of (stepH_ok h hit now d u)]
theorem keepA_L {D : List GFound} {now d u : Int} {a b : GAlert} (h : keepA D now d u a = some b) : b.L = a.L := by
  unfold keepA at h
  simp only at h
  split at h
  · cases h
  · cases h; rfl
theorem keptL_mem {D : List GFound} {now d u : Int} {A : List GAlert} {b : GAlert} (h : b ∈ keptL D now d u A) : ∃ a ∈ A, keepA D now d u a = some b ∧ b.L = a.L := by
  obtain ⟨a, ha, hb⟩ := List.mem_filterMap.1 h
  exact ⟨a, ha, hb, keepA_L hb⟩
theorem asc_apart {A : List GAlert} (h : AscA A) : Apart A := h.imp fun {a b} hab e => by
  have := (cmpLs_ord.zero a.L b.L).2 e
  omega
theorem keptL_asc {D : List GFound} {now d u : Int} {A : List GAlert} (h : AscA A) : AscA (keptL D now d u A) := by
  unfold keptL AscA
  rw [List.pairwise_filterMap]
  refine h.imp fun {a b} hab x hx y hy => ?_
  rw [keepA_L hx, keepA_L hy]; exact hab
theorem keptL_sane {D : List GFound} {now d u : Int} {A : List GAlert} (h : Sanes GAlert.L A) : Sanes GAlert.L (keptL D now d u A) := by
  intro b hb
  obtain ⟨a, ha, _, e⟩ := keptL_mem hb
  rw [e]; exact h a ha
structure InvS (s : Int × List GAlert) : Prop where
  sane : Sanes GAlert.L s.2
  apart : Apart s.2
  len : s.2.length ≤ 16
  full : 0 ≤ s.1 ∧ s.1 ≤ cap
theorem addS_inv {now d u : Int} {s : Int × List GAlert} {x : GFound} (h : InvS s) (hx : saneB x.L = true) : InvS (addS now d u s x) := by
  unfold addS
  cases e : s.2.find? (fun y => decide (y.L = x.L)) with
  | some y => simpa using h
  | none =>
    simp only [Option.isSome_none, Bool.false_eq_true, if_false]
    have hn := find_none e
    have hf := h.full
    split
    · exact ⟨h.sane, h.apart, h.len, by simp only; unfold cap at *; omega⟩
    · refine ⟨h.sane.snoc hx, ?_, by simp; omega, hf⟩
      refine List.pairwise_append.2 ⟨h.apart, List.pairwise_singleton _ _, fun a ha b hb => ?_⟩
      rw [List.mem_singleton] at hb; subst hb
      exact hn a ha
theorem foldS_inv {now d u : Int} : ∀ (D : List GFound) {s : Int × List GAlert}, Sanes GFound.L D → InvS s → InvS (D.foldl (addS now d u) s)
  | [], _, _, h => h
  | x :: D, _, hD, h => foldS_inv D (fun y hy => hD y (by simp [hy])) (addS_inv h (hD x (by simp)))
theorem inv0 {T : GTable} (hT : TabOk T) (D : List GFound) (now d u : Int) : InvS (T.Full, keptL D now d u T.A) :=
  ⟨keptL_sane fun a ha => alOk_sane (hT.each a ha), asc_apart (keptL_asc hT.asc), Nat.le_trans (List.length_filterMap_le _ _) hT.len, hT.full⟩
theorem stepS_inv {T : GTable} (hT : TabOk T) (f : List GFound) (now d u : Int) : InvS (stepS T (dist f) now d u) := foldS_inv _ (dist_sane f) (inv0 hT _ now d u)
theorem keptL_take {D : List GFound} {now d u : Int} {A : List GAlert} {i : Nat} (hi : i < A.length) : keptL D now d u (A.take (i + 1)) = keptL D now d u (A.take i) ++ (keepA D now d u (nth A i)).toList := by
  unfold keptL
  rw [take_nth hi, List.filterMap_append]
  congr 1
set_option maxHeartbeats 1000000 in
theorem table_Step_eq (t : GTable) {f : List GFound} (now d u : Int) (hf : f.length ≤ 1000) : table_Step t f now d u = some (stepT t f now d u) := by
  unfold table_Step
  rw [table_counted_eq, callM_some, table_distinct_eq hf, callM_some]
  simp only [letO_eq, letE_eq]
  unfold stepT
  have hT := tabB_iff.1 (cntT_ok t)
  have hD := dist_sane f
  have hDl : (dist f).length ≤ 1000 := by
    have := foldl_len f []
    simp only [List.length_nil] at this
    unfold dist; omega
  have hi0 := stepS_inv hT f now d u
  unfold stepS at hi0 ⊢
  generalize dist f = D at *
  generalize cntT t = T at *
  refine loopM_ix (fun s => s.2) (fun i => (enk GAlert.L (keptL D now d u (T.A.take i)), (i : Int))) T.A.length _ (fun _ => rfl) ?_ ?_ (by simp [keptL, enk])
  · intro i hi
    have ha := alOk_sane (hT.each _ (nth_mem hi))
    have hs : Sanes GAlert.L (keptL D now d u (T.A.take i)) := keptL_sane fun a h => alOk_sane (hT.each a (List.mem_of_mem_take h))
    have hn : ∀ x ∈ keptL D now d u (T.A.take i), x.L ≠ (nth T.A i).L := by
      intro x hx e
      obtain ⟨a, hm, _, e2⟩ := keptL_mem hx
      obtain ⟨j, hj, rfl⟩ := mem_nth hm
      rw [List.length_take] at hj
      have e3 : nth (T.A.take i) j = nth T.A j := by
        simp only [nth, List.getD_eq_getElem?_getD]
        rw [List.getElem?_take_of_lt (by omega)]
      rw [e3] at e2
      have := pairwise_nth hT.asc (i := j) (j := i) (by omega) hi
      rw [← e2, e] at this
      have := (cmpLs_ord.zero (nth T.A i).L _).2 rfl
      omega
    simp only [iteM_dec, idxM_get (nth_get hi), key_eq ha, callM_some]
    rw [if_pos (by omega), keptL_take hi, wI_of (by have := hT.len; omega)]
    generalize keptL D now d u (T.A.take i) = m at *
    unfold lookM
    rw [mlk_enk hD ha]
    unfold keepA
    cases e : D.find? (fun x => decide (x.L = (nth T.A i).L)) with
    | some x =>
      simp only [hold_Step_eq, callM_some, Option.isSome_some, Gone_step]
      rw [mst_enk hs ha hn]
      cases hg : goneH (stepH (nth T.A i).H true now d u).1 (bd now) (bd u)
      · simp only [iteM_false]
        rw [enk_snoc (lab := GAlert.L)] <;> rfl
      · simp only [iteM_true]
        rw [mdl_enk hs ha hn]; simp
    | none =>
      simp only [hold_Step_eq, callM_some, Option.isSome_none, Gone_step]
      rw [mst_enk hs ha hn]
      cases hg : goneH (stepH (nth T.A i).H false now d u).1 (bd now) (bd u)
      · simp only [iteM_false]
        rw [enk_snoc (lab := GAlert.L)] <;> rfl
      · simp only [iteM_true]
        rw [mdl_enk hs ha hn]; simp
  · simp only [iteM_dec]
    rw [if_neg (by omega), List.take_length]
    have hI := inv0 hT D now d u
    generalize keptL D now d u T.A = K at *
    rw [show ∀ r : GTable, (some (Sum.inr r) : Option ((List (Str × GAlert) × Int) ⊕ GTable)) = exitM (some r) from fun _ => rfl]
    congr 1
    refine loopM_ix (fun s => s.2.2) (fun i => (((D.take i).foldl (addS now d u) (T.Full, K)).1, enk GAlert.L ((D.take i).foldl (addS now d u) (T.Full, K)).2, (i : Int))) D.length _ (fun _ => rfl) ?_ ?_ (by simp)
    · intro i hi
      have hx := hD _ (nth_mem hi)
      have hs := foldS_inv (now := now) (d := d) (u := u) (D.take i) (fun y hy => hD y (List.mem_of_mem_take hy)) hI
      simp only [iteM_dec, idxM_get (nth_get hi), key_eq hx, callM_some]
      rw [if_pos (by omega), foldl_take hi, wI_of (x := (i : Int) + 1) (by omega)]
      generalize (D.take i).foldl (addS now d u) (T.Full, K) = s at *
      unfold lookM
      rw [mlk_enk hs.sane hx]
      unfold addS
      cases e : s.2.find? (fun y => decide (y.L = (nth D i).L)) with
      | some y => simp
      | none =>
        have hn := find_none e
        simp only [Option.isSome_none, Bool.false_eq_true, if_false, enk_length]
        have hf2 := hs.full
        unfold cap at hf2
        by_cases h16 : 16 ≤ s.2.length
        · rw [if_pos (by omega), if_pos h16, wI_of (by omega)]; rfl
        · rw [if_neg (by omega), if_neg h16, hold_Step_eq, callM_some, mst_enk hs.sane hx hn, enk_snoc (lab := GAlert.L)] <;> rfl
    · simp only [iteM_dec]
      rw [if_neg (by omega), List.take_length, tailM_eq, table_sorted_eq hi0.sane hi0.apart (by have := hi0.len; omega), callO_some]
      rfl
end Go.Proofs.YtchlojabjmlodaaDoor.AM

/- What the laws ask besides: few, the same, has, awake. -/
namespace Go.Proofs.YtchlojabjmlodaaDoor.AM
open Go

def fewT (A : List GAlert) : Bool := A.all (fun a => fewB a.L) && decide (A.length ≤ 40)
def fewF (f : List GFound) : Bool := f.all (fun a => fewB a.L) && decide (f.length ≤ 60)
theorem all_drop {α : Type} [Inhabited α] {p : α → Bool} {l : List α} {i : Nat} (hi : i < l.length) : (l.drop i).all p = (p (nth l i) && (l.drop (i + 1)).all p) := by
  rw [drop_nth hi, List.all_cons]
end Go.Proofs.YtchlojabjmlodaaDoor.AM

/- Queues: which may be, and one note more. -/
namespace Go.Proofs.YtchlojabjmlodaaDoor.AM
open Go

def noteB (n : GNote) : Bool := saneB n.L && tmB n.T && tmB n.Next && decide (0 ≤ n.Tries) && decide (n.Tries < 8)
def queueB (q : GQueue) : Bool := decide (q.N.length ≤ 16) && tmB q.Drops && tmB q.Lost && q.N.all noteB
def q0 : GQueue := ⟨[], 0, 0⟩
def cntQ (q : GQueue) : GQueue := if queueB q then q else q0
theorem queue_time_eq (x : Int) : queue_time x = some (tmB x) := by
  unfold queue_time tmB
  simp only [letE_eq, retM_eq]
  cases decide (0 ≤ x) <;> rfl
theorem queue_Sane_eq (q : GQueue) : queue_Sane q = some (queueB q) := by
  unfold queue_Sane queueB
  simp only [letE_eq, iteM_dec]
  by_cases h1 : 16 < q.N.length
  · rw [if_pos (by omega), decide_eq_false (by omega)]; rfl
  rw [if_neg (by omega), decide_eq_true (show q.N.length ≤ 16 by omega), queue_time_eq, callM_some, iteM_not]
  cases h2 : tmB q.Drops
  · rfl
  try simp only [iteM_true, queue_time_eq, callM_some, iteM_not]
  cases h3 : tmB q.Lost
  · rfl
  simp only [iteM_true, Bool.true_and]
  refine (loopM_nat q.N.length (fun i => (q.N.drop i).all noteB) ?_ ?_).trans (by simp)
  · intro i hi
    simp only [iteM_dec, idxM_get (nth_get hi), label_Sane_eq, callM_some, iteM_not, queue_time_eq, all_drop hi]
    rw [if_pos (by omega)]
    cases e1 : saneB (nth q.N i).L
    · left; simp [noteB, e1]
    cases e2 : tmB (nth q.N i).T
    · left; simp [noteB, e2]
    cases e3 : tmB (nth q.N i).Next
    · left; simp [noteB, e3]
    simp only [iteM_true]
    by_cases e4 : (nth q.N i).Tries < 0
    · left; rw [if_pos e4]; simp [noteB, show ¬ 0 ≤ (nth q.N i).Tries by omega]
    rw [if_neg e4]
    by_cases e5 : 8 ≤ (nth q.N i).Tries
    · left; rw [if_pos e5]; simp [noteB, show ¬ (nth q.N i).Tries < 8 by omega]
    rw [if_neg e5, wI_of (by omega)]
    right
    exact ⟨by simp, by simp [noteB, e1, e2, e3]; omega⟩
  · try simp only [iteM_dec]
    rw [if_neg (by omega)]
    simp
theorem queue_counted_eq (q : GQueue) : queue_counted q = some (cntQ q) := by
  unfold queue_counted cntQ
  simp only [queue_Sane_eq, callM_some, letE_eq, iteM_not]
  cases queueB q <;> rfl
theorem cntQ_ok (q : GQueue) : queueB (cntQ q) = true := by
  unfold cntQ; split
  · assumption
  · rfl
theorem cntQ_of {q : GQueue} (h : queueB q = true) : cntQ q = q := if_pos h
theorem queue_nearest_eq (x : Int) : queue_nearest x = some (bd x) := rfl
theorem clone_eq (l : List GNote) (h : l.length ≤ 1000) : slices_Clone_Note_Note l = some l := by
  unfold slices_Clone_Note_Note
  have e : (bs0M <| gdM ((([] : List GNote).length + l.length) * 56 ≤ 140737488355328) <| letO (so 0 cGNote) (fun x1 => [tk x1.length 5 33]) (([] : List GNote) ++ l) fun x1 => retM x1) = some l := by
    show gdM _ _ = _
    rw [gdM_pos (by simp only [List.length_nil]; omega)]; rfl
  exact (if_pos (fun hl => by rw [e, hl]; rfl)).trans e
def note (l : List GPair) (f : Bool) (t : Int) : GNote := ⟨l, f, t, 0, t⟩
/-- One note more. -/
def pushQ (q : GQueue) (l : List GPair) (f : Bool) (t : Int) : GQueue :=
  if saneB l then (if 16 ≤ q.N.length then ⟨q.N, min (q.Drops + 1) cap, q.Lost⟩ else ⟨q.N ++ [note l f (bd t)], q.Drops, q.Lost⟩) else q
structure QuOk (q : GQueue) : Prop where
  len : q.N.length ≤ 16
  drops : tmB q.Drops = true
  lost : tmB q.Lost = true
  all : ∀ n ∈ q.N, noteB n = true
theorem queueB_iff {q : GQueue} : queueB q = true ↔ QuOk q := by
  simp only [queueB, Bool.and_eq_true, decide_eq_true_eq, List.all_eq_true]
  exact ⟨fun ⟨⟨⟨a, b⟩, c⟩, d⟩ => ⟨a, b, c, d⟩, fun ⟨a, b, c, d⟩ => ⟨⟨⟨a, b⟩, c⟩, d⟩⟩
theorem queue_Push_eq (q : GQueue) (l : List GPair) (f : Bool) (t : Int) : queue_Push q l f t = some (pushQ (cntQ q) l f t) := by
  have hq := queueB_iff.1 (cntQ_ok q)
  have hd := tmB_iff.1 hq.drops
  unfold queue_Push pushQ
  simp only [queue_counted_eq, callM_some, label_Sane_eq, letE_eq, iteM_not, letO_eq, retM_eq]
  cases hs : saneB l
  · rfl
  simp only [iteM_true, iteM_dec, if_true]
  by_cases h1 : 16 ≤ (cntQ q).N.length
  · rw [if_pos (by omega), if_pos h1, wI_of (by omega)]; rfl
  · rw [if_neg (by omega), if_neg h1]
    have := hq.len
    simp only [queue_nearest_eq, callM_some, clone_eq _ (show (cntQ q).N.length ≤ 1000 by omega)]
    rw [gdM_pos (by simp; omega)]; rfl
theorem pushQ_ok {q : GQueue} (hq : QuOk q) (l : List GPair) (f : Bool) (t : Int) : QuOk (pushQ q l f t) := by
  have hd := tmB_iff.1 hq.drops
  unfold pushQ
  split
  · rename_i hs
    split
    · exact ⟨hq.len, tmB_iff.2 (by unfold cap; simp only; omega), hq.lost, hq.all⟩
    · refine ⟨by simp only [List.length_append, List.length_cons, List.length_nil]; omega, hq.drops, hq.lost, fun n hn => ?_⟩
      rcases List.mem_append.1 hn with hn | hn
      · exact hq.all n hn
      · simp only [List.mem_singleton] at hn
        subst hn
        simp [noteB, note, hs, tmB_bd]
  · exact hq
theorem pushQ_cnt {q : GQueue} (hq : QuOk q) (l : List GPair) (f : Bool) (t : Int) : queue_Push q l f t = some (pushQ q l f t) := by
  rw [queue_Push_eq, cntQ_of (queueB_iff.2 hq)]
end Go.Proofs.YtchlojabjmlodaaDoor.AM

/- Lists of labels: in order, each once; their keys; what fires. -/
namespace Go.Proofs.YtchlojabjmlodaaDoor.AM
open Go

theorem table_Active_eq (t : GTable) : table_Active t = some ((cntT t).A.filter fun a => !decide (a.State = 0)) := by
  unfold table_Active
  rw [table_counted_eq]
  simp only [letE_eq, callM_some, tokM_eq]
  have hk := (tabB_iff.1 (cntT_ok t)).len
  generalize cntT t = u at *
  refine (loopM_natA u.A.length (fun i a => a.length ≤ i) (fun i a => a ++ (u.A.drop i).filter fun a => !decide (a.State = 0)) ?_ ?_ (Nat.le_refl _)).trans (by simp)
  · intro i a hi ha
    right
    simp only [iteM_dec, idxM_get (nth_get hi), iteM_not, letO_eq]
    rw [if_pos (by omega), drop_nth hi]
    by_cases hn : (nth u.A i).State = 0
    · rw [if_pos hn, wI_of (by omega)]
      exact ⟨a, by simp, by omega, by simp [hn]⟩
    · rw [if_neg hn, gdM_pos (by simp; omega), wI_of (by omega)]
      exact ⟨a ++ [nth u.A i], by simp, by simp; omega, by simp [hn]⟩
  · intro a ha
    simp only [iteM_dec]
    rw [if_neg (by omega)]
    simp
def altL (p q : (List GPair)) : Bool := decide (cmpLs p q < 0)
def insL (p : (List GPair)) : List (List GPair) → List (List GPair)
  | [] => [p]
  | q :: l => if altL p q then p :: q :: l else q :: insL p l
def sortLs : List (List GPair) → List (List GPair)
  | [] => []
  | p :: l => insL p (sortLs l)
theorem insL_perm (p : (List GPair)) : ∀ l, (insL p l).Perm (p :: l)
  | [] => .refl _
  | q :: l => by
    unfold insL
    split
    · exact .refl _
    · exact ((insL_perm p l).cons q).trans (.swap p q l)
theorem sortLs_perm : ∀ l, (sortLs l).Perm l
  | [] => .refl _
  | p :: l => (insL_perm p _).trans ((sortLs_perm l).cons p)
def AscL (l : List (List GPair)) : Prop := l.Pairwise fun p q => cmpLs p q < 0
def ApartL (l : List (List GPair)) : Prop := l.Pairwise fun p q => p ≠ q
theorem ApartL.perm {l m : List (List GPair)} (h : ApartL l) (hp : m.Perm l) : ApartL m := by
  refine List.Pairwise.perm h hp.symm fun h => ?_
  exact fun e => h e.symm
theorem insL_asc {p : (List GPair)} : ∀ {l : List (List GPair)}, AscL l → (∀ q ∈ l, p ≠ q) → AscL (insL p l)
  | [], _, _ => List.pairwise_singleton _ _
  | q :: l, h, hn => by
    obtain ⟨h1, h2⟩ := List.pairwise_cons.1 h
    unfold insL
    split
    · rename_i hb
      have hb : cmpLs p q < 0 := of_decide_eq_true hb
      exact List.pairwise_cons.2 ⟨fun x hx => by
        rcases List.mem_cons.1 hx with rfl | hx
        · exact hb
        · exact cmpLs_lt hb (h1 x hx), h⟩
    · rename_i hb
      have hb : ¬ cmpLs p q < 0 := fun h => hb (decide_eq_true h)
      refine List.pairwise_cons.2 ⟨fun x hx => ?_, insL_asc h2 fun x hx => hn x (by simp [hx])⟩
      rcases List.mem_cons.1 ((insL_perm p l).mem_iff.1 hx) with rfl | hx
      · exact cmp_flip hb (hn q (by simp))
      · exact h1 x hx
theorem sortLs_asc : ∀ {l : List (List GPair)}, ApartL l → AscL (sortLs l)
  | [], _ => List.Pairwise.nil
  | p :: l, h => by
    obtain ⟨h1, h2⟩ := List.pairwise_cons.1 h
    exact insL_asc (sortLs_asc h2) fun q hq => h1 q ((sortLs_perm l).mem_iff.1 hq)
theorem ascL_eq {l m : List (List GPair)} (hl : AscL l) (hm : AscL m) (hp : l.Perm m) : l = m :=
  hp.eq_of_pairwise (fun a b _ _ h k => by
    have := cmpLs_ord.anti a b
    omega) hl hm
theorem sortLs_eq {l m : List (List GPair)} (hl : ApartL l) (hp : m.Perm l) : sortLs m = sortLs l :=
  ascL_eq (sortLs_asc (hl.perm hp)) (sortLs_asc hl) ((sortLs_perm m).trans (hp.trans (sortLs_perm l).symm))
theorem sortLs_of {l : List (List GPair)} (h : AscL l) : sortLs l = l := by
  refine ascL_eq (sortLs_asc (h.imp fun {a b} hab e => ?_)) h (sortLs_perm l)
  have := (cmpLs_ord.zero a b).2 e
  omega

def addU (acc : List (List GPair)) (l : List GPair) : List (List GPair) := if l ∈ acc then acc else acc ++ [l]
def stepF (acc : List (List GPair)) (a : GAlert) : List (List GPair) := if a.State = 2 then addU acc a.L else acc
def actA (t : GTable) : List GAlert := (cntT t).A.filter fun a => !decide (a.State = 0)
def accT (acc : List (List GPair)) (t : GTable) : List (List GPair) := (actA t).foldl stepF acc
def fireU (tabs : List GTable) : List (List GPair) := tabs.foldl accT []
def fireL (tabs : List GTable) : List (List GPair) := sortLs (fireU tabs)
def Fires (tabs : List GTable) (l : List GPair) : Prop := ∃ t ∈ tabs, ∃ a ∈ (cntT t).A, a.State = 2 ∧ a.L = l

theorem actA_sane {t : GTable} {a : GAlert} (h : a ∈ actA t) : saneB a.L = true := by
  have := (tabB_iff.1 (cntT_ok t)).each a (List.mem_filter.1 h).1
  exact alOk_sane this
theorem addU_mem {acc : List (List GPair)} {l k : List GPair} : k ∈ addU acc l ↔ k ∈ acc ∨ k = l := by
  unfold addU
  split
  · rename_i h
    exact ⟨.inl, fun h' => h'.elim id fun e => e ▸ h⟩
  · simp
theorem stepF_mem {acc : List (List GPair)} {a : GAlert} {k : List GPair} : k ∈ stepF acc a ↔ k ∈ acc ∨ (a.State = 2 ∧ a.L = k) := by
  unfold stepF
  split
  · rename_i h
    rw [addU_mem]
    exact ⟨fun h' => h'.imp id fun e => ⟨h, e.symm⟩, fun h' => h'.imp id fun e => e.2.symm⟩
  · rename_i h
    exact ⟨.inl, fun h' => h'.elim id fun e => absurd e.1 h⟩
theorem foldF_mem {k : List GPair} : ∀ (A : List GAlert) {acc : List (List GPair)}, k ∈ A.foldl stepF acc ↔ k ∈ acc ∨ ∃ a ∈ A, a.State = 2 ∧ a.L = k
  | [], acc => by simp
  | a :: A, acc => by
    rw [List.foldl_cons, foldF_mem A, stepF_mem]
    simp only [List.mem_cons, exists_eq_or_imp, or_assoc]
theorem accT_mem {acc : List (List GPair)} {t : GTable} {k : List GPair} : k ∈ accT acc t ↔ k ∈ acc ∨ ∃ a ∈ (cntT t).A, a.State = 2 ∧ a.L = k := by
  unfold accT
  rw [foldF_mem]
  constructor
  · rintro (h | ⟨a, h1, h2⟩)
    · exact .inl h
    · exact .inr ⟨a, (List.mem_filter.1 h1).1, h2⟩
  · rintro (h | ⟨a, h1, h2⟩)
    · exact .inl h
    · exact .inr ⟨a, List.mem_filter.2 ⟨h1, by simp [h2.1]⟩, h2⟩
theorem foldT_mem {k : List GPair} : ∀ (T : List GTable) {acc : List (List GPair)}, k ∈ T.foldl accT acc ↔ k ∈ acc ∨ Fires T k
  | [], acc => by simp [Fires]
  | t :: T, acc => by
    rw [List.foldl_cons, foldT_mem T, accT_mem]
    simp only [Fires, List.mem_cons, exists_eq_or_imp, or_assoc]
theorem fireU_mem {tabs : List GTable} {k : List GPair} : k ∈ fireU tabs ↔ Fires tabs k := by
  unfold fireU; rw [foldT_mem]; simp
theorem addU_apart {acc : List (List GPair)} {l : List GPair} (h : ApartL acc) : ApartL (addU acc l) := by
  unfold addU
  split
  · exact h
  · rename_i hn
    refine List.pairwise_append.2 ⟨h, List.pairwise_singleton _ _, fun a ha b hb => ?_⟩
    simp only [List.mem_singleton] at hb
    subst hb
    rintro rfl
    exact hn ha
theorem foldF_apart : ∀ (A : List GAlert) {acc : List (List GPair)}, ApartL acc → ApartL (A.foldl stepF acc)
  | [], _, h => h
  | a :: A, acc, h => by
    rw [List.foldl_cons]
    refine foldF_apart A ?_
    unfold stepF
    split
    · exact addU_apart h
    · exact h
theorem foldT_apart : ∀ (T : List GTable) {acc : List (List GPair)}, ApartL acc → ApartL (T.foldl accT acc)
  | [], _, h => h
  | t :: T, acc, h => by rw [List.foldl_cons]; exact foldT_apart T (foldF_apart _ h)
theorem fireU_apart (tabs : List GTable) : ApartL (fireU tabs) := foldT_apart tabs List.Pairwise.nil
theorem fires_sane {tabs : List GTable} {l : List GPair} (h : Fires tabs l) : saneB l = true := by
  obtain ⟨t, _, a, ha, _, rfl⟩ := h
  exact alOk_sane ((tabB_iff.1 (cntT_ok t)).each a ha)
theorem fireL_mem {tabs : List GTable} {k : List GPair} : k ∈ fireL tabs ↔ Fires tabs k := by
  unfold fireL; rw [(sortLs_perm _).mem_iff, fireU_mem]
theorem fireL_asc (tabs : List GTable) : AscL (fireL tabs) := sortLs_asc (fireU_apart tabs)
theorem fireL_sane {tabs : List GTable} {l : List GPair} (h : l ∈ fireL tabs) : saneB l = true := fires_sane (fireL_mem.1 h)
/-- Two lists in order, of the same labels. -/
theorem ascL_same {l m : List (List GPair)} (hl : AscL l) (hm : AscL m) (h : ∀ k, k ∈ l ↔ k ∈ m) : l = m := by
  have ap : ∀ {l : List (List GPair)}, AscL l → l.Nodup := fun h => h.imp fun {a b} hab e => by
    have := (cmpLs_ord.zero a b).2 e
    omega
  refine ascL_eq hl hm ?_
  exact (List.perm_ext_iff_of_nodup (ap hl) (ap hm)).2 h
theorem stepF_len (acc : List (List GPair)) (a : GAlert) : (stepF acc a).length ≤ acc.length + 1 := by
  unfold stepF addU
  split
  · split
    · omega
    · simp
  · omega
theorem foldF_len : ∀ (A : List GAlert) (acc : List (List GPair)), (A.foldl stepF acc).length ≤ acc.length + A.length
  | [], acc => by simp
  | a :: A, acc => by
    have := foldF_len A (stepF acc a)
    have := stepF_len acc a
    rw [List.foldl_cons, List.length_cons]; omega
theorem actA_len (t : GTable) : (actA t).length ≤ 16 := Nat.le_trans (List.length_filter_le _ _) (tabB_iff.1 (cntT_ok t)).len
theorem foldT_len : ∀ (T : List GTable) (acc : List (List GPair)), (T.foldl accT acc).length ≤ acc.length + 16 * T.length
  | [], acc => by simp
  | t :: T, acc => by
    have := foldT_len T (accT acc t)
    have h1 := foldF_len (actA t) acc
    have h2 := actA_len t
    unfold accT at this
    rw [List.foldl_cons, List.length_cons]
    unfold accT
    omega

/-! ### keys -/
def kO (l : List GPair) : LA16_cGPair := arA16_cGPair (copyL (List.replicate 16 ⟨[], []⟩) l)
theorem keyOf_eq (l : List GPair) : notify_keyOf l = some (kO l) := rfl
theorem kO_get {l : List GPair} (h : l.length ≤ 16) (i : Nat) (hi : i < 16) : (copyL (List.replicate 16 (⟨[], []⟩ : GPair)) l).getD i default = if i < l.length then pr l i else ⟨[], []⟩ := by
  unfold copyL
  rw [List.length_replicate, List.take_of_length_le h, List.getD_eq_getElem?_getD]
  split
  · rename_i hl
    rw [List.getElem?_append_left hl, pr_get hl]; rfl
  · rename_i hl
    rw [List.getElem?_append_right (by omega), List.drop_replicate, List.getElem?_replicate, if_pos (by omega)]; rfl
theorem arA16_get {a b : List GPair} (h : arA16_cGPair a = arA16_cGPair b) (i : Nat) (hi : i < 16) : a.getD i default = b.getD i default := by
  simp only [arA16_cGPair, Prod.mk.injEq] at h
  have hc : i = 0 ∨ i = 1 ∨ i = 2 ∨ i = 3 ∨ i = 4 ∨ i = 5 ∨ i = 6 ∨ i = 7 ∨ i = 8 ∨ i = 9 ∨ i = 10 ∨ i = 11 ∨ i = 12 ∨ i = 13 ∨ i = 14 ∨ i = 15 := by omega
  obtain ⟨h0, h1, h2, h3, h4, h5, h6, h7, h8, h9, h10, h11, h12, h13, h14, h15⟩ := h
  rcases hc with rfl | rfl | rfl | rfl | rfl | rfl | rfl | rfl | rfl | rfl | rfl | rfl | rfl | rfl | rfl | rfl <;> assumption
theorem name_pos {l : List GPair} (h : saneB l = true) {i : Nat} (hi : i < l.length) : (pr l i).Name ≠ [] := by
  have := (saneB_iff.1 h).2.1 (pr l i) (by unfold pr; rw [List.getD_eq_getElem?_getD, List.getElem?_eq_getElem hi]; exact List.getElem_mem hi)
  intro e
  rw [e] at this
  simp [nameB] at this
theorem kO_inj {a b : List GPair} (ha : saneB a = true) (hb : saneB b = true) (h : kO a = kO b) : a = b := by
  have la := (saneB_iff.1 ha).1
  have lb := (saneB_iff.1 hb).1
  have key : ∀ i, i < 16 → (if i < a.length then pr a i else ⟨[], []⟩) = (if i < b.length then pr b i else (⟨[], []⟩ : GPair)) := fun i hi => by
    have := arA16_get h i hi
    rwa [kO_get la i hi, kO_get lb i hi] at this
  refine List.ext_getElem? fun i => ?_
  rcases Nat.lt_or_ge i a.length with h1 | h1 <;> rcases Nat.lt_or_ge i b.length with h2 | h2
  · have := key i (by omega)
    rw [if_pos h1, if_pos h2] at this
    rw [pr_get h1, pr_get h2, this]
  · have := key i (by omega)
    rw [if_pos h1, if_neg (by omega)] at this
    exact absurd (by rw [this]) (name_pos ha h1)
  · have := key i (by omega)
    rw [if_neg (by omega), if_pos h2] at this
    exact absurd (by rw [← this]) (name_pos hb h2)
  · rw [List.getElem?_eq_none h1, List.getElem?_eq_none h2]
def kM (acc : List (List GPair)) : List (LA16_cGPair × Bool) := acc.map fun l => (kO l, true)
theorem mlk_kM {l : List GPair} (hl : saneB l = true) : ∀ {acc : List (List GPair)}, (∀ k ∈ acc, saneB k = true) → (mlk (kM acc) (kO l)).getD false = decide (l ∈ acc)
  | [], _ => by simp [kM, mlk]
  | k :: acc, hs => by
    have ih := mlk_kM hl (acc := acc) fun k hk => hs k (List.mem_cons_of_mem _ hk)
    simp only [kM, List.map_cons, mlk] at ih ⊢
    by_cases h : l = k
    · subst h; simp
    · rw [if_neg fun e => h (kO_inj hl (hs k List.mem_cons_self) e), ih]
      simp [h]
theorem mst_kM {l : List GPair} (hl : saneB l = true) : ∀ {acc : List (List GPair)}, (∀ k ∈ acc, saneB k = true) → l ∉ acc → mst (kM acc) (kO l) true = kM (acc ++ [l])
  | [], _, _ => rfl
  | k :: acc, hs, hn => by
    have ih := mst_kM hl (acc := acc) (fun k hk => hs k (List.mem_cons_of_mem _ hk)) fun h => hn (List.mem_cons_of_mem _ h)
    simp only [kM, List.map_cons, mst, List.cons_append] at ih ⊢
    rw [if_neg fun e => hn (by rw [kO_inj hl (hs k List.mem_cons_self) e]; exact List.mem_cons_self), ih]
end Go.Proofs.YtchlojabjmlodaaDoor.AM

/- What fires, as computed; the search among what was told. -/
namespace Go.Proofs.YtchlojabjmlodaaDoor.AM
open Go

theorem take_foldl {α β : Type} [Inhabited α] {f : β → α → β} {b : β} {l : List α} {i : Nat} (h : i < l.length) : (l.take (i + 1)).foldl f b = f ((l.take i).foldl f b) (nth l i) := by
  rw [take_nth h, List.foldl_append]; rfl
theorem sortedL_eq {l : List (List GPair)} (hs : ∀ k ∈ l, saneB k = true) (ha : ApartL l) (hl : l.length ≤ 100000) {β : Type} {m : List (List GPair) → Option β} {y : β} (hm : m (sortLs l) = some y) : sortM label_Compare l m = some y := by
  have o := cmpLs_ord
  refine sortM_eq (fun p q => compareL p q) ⟨fun p _ q _ => label_Compare_eq p q, fun p _ => ?_, fun p _ q _ r _ h1 h2 => cmpLs_lt h1 h2, fun p _ q _ r _ h1 h2 => ?_, by omega⟩ ?_
  · have := (o.zero (countsL p) (countsL p)).2 rfl
    simp only [compareL]; omega
  · simp only [compareL] at *
    have e1 := o.anti (countsL p) (countsL q)
    have e2 := o.anti (countsL q) (countsL r)
    have e3 := o.anti (countsL p) (countsL r)
    have := o.trans (countsL r) (countsL q) (countsL p) (by omega) (by omega)
    omega
  · intro l' hp hp'
    have : l' = sortLs l := by
      refine ascL_eq ?_ (sortLs_asc ha) (hp.trans (sortLs_perm l).symm)
      have h2 := (ha.perm hp)
      refine (List.Pairwise.and hp' h2).imp_of_mem fun {a b} hma hmb hab => ?_
      rw [compareL_sane (hs b (hp.mem_iff.1 hmb)) (hs a (hp.mem_iff.1 hma))] at hab
      exact cmp_flip hab.1 (fun e => hab.2 e.symm) |> fun h => h
    rw [this, hm]

def accF (A : List GAlert) (acc : List (List GPair)) (j : Nat) : List (List GPair) := (A.take j).foldl stepF acc
theorem accF_sane {A : List GAlert} {acc : List (List GPair)} (h : ∀ k ∈ acc, saneB k = true) (hA : ∀ a ∈ A, saneB a.L = true) (j : Nat) : ∀ k ∈ accF A acc j, saneB k = true := by
  intro k hk
  rcases (foldF_mem _).1 hk with h' | ⟨a, h1, _, rfl⟩
  · exact h k h'
  · exact hA a (List.mem_of_mem_take h1)
theorem notify_Firing_eq (tabs : List GTable) (h : tabs.length ≤ 1000) : notify_Firing tabs = some (fireL tabs) := by
  unfold notify_Firing
  simp only [letE_eq, letO_eq, tokM_eq]
  have hlen : ∀ i, i ≤ tabs.length → ((tabs.take i).foldl accT []).length ≤ 16 * i := fun i hi => by
    have := foldT_len (tabs.take i) []
    rw [List.length_take, Nat.min_eq_left hi] at this
    simpa using this
  have hsane : ∀ i, ∀ k ∈ (tabs.take i).foldl accT [], saneB k = true := fun i k hk => by
    rcases (foldT_mem _).1 hk with h' | ⟨t, _, a, ha, _, rfl⟩
    · cases h'
    · exact alOk_sane ((tabB_iff.1 (cntT_ok t)).each a ha)
  refine loopM_ix (fun s => s.2.1) (fun i => (kM ((tabs.take i).foldl accT []), (i : Int), (tabs.take i).foldl accT [])) tabs.length (fireL tabs) (fun _ => rfl) ?_ ?_ rfl
  · intro i hi
    simp only [iteM_dec, idxM_get (nth_get hi), table_Active_eq, callM_some]
    rw [if_pos (by omega)]
    generalize ht : nth tabs i = t
    show loopM _ _ _ _ = _
    have hA : ∀ a ∈ actA t, saneB a.L = true := fun a ha => actA_sane ha
    have hAl := actA_len t
    have hacc := hlen i (by omega)
    have hsa := hsane i
    generalize hac : (tabs.take i).foldl accT [] = acc at hacc hsa
    have hnext : (tabs.take (i + 1)).foldl accT [] = accT acc t := by rw [take_foldl hi, hac, ht]
    refine loopM_ix (fun s => s.2.1) (fun j => (kM (accF (actA t) acc j), (j : Int), accF (actA t) acc j)) (actA t).length _ (fun _ => rfl) ?_ ?_ rfl
    · intro j hj
      have hj' : j < ((cntT t).A.filter fun a => !decide (a.State = 0)).length := hj
      have hg : ((cntT t).A.filter fun a => !decide (a.State = 0))[j]? = some (nth (actA t) j) := nth_get hj
      have hs := accF_sane hsa hA j
      have hal := hA _ (nth_mem hj)
      have hl2 : (accF (actA t) acc j).length ≤ 16 * i + 16 := by
        have := foldF_len ((actA t).take j) acc
        rw [List.length_take] at this
        unfold accF
        omega
      have hst : accF (actA t) acc (j + 1) = stepF (accF (actA t) acc j) (nth (actA t) j) := take_foldl hj
      simp only [iteM_dec, idxM_get hg, keyOf_eq, callM_some, iteM_not]
      rw [if_pos (by omega), hst]
      generalize accF (actA t) acc j = ac at *
      generalize nth (actA t) j = a at *
      rw [wI_of (by omega)]
      unfold stepF
      by_cases h2 : a.State = 2
      · rw [if_pos h2, if_pos h2, mlk_kM hal hs]
        unfold addU
        by_cases hm : a.L ∈ ac
        · rw [if_pos hm]
          simp [hm]
        · rw [if_neg hm, mst_kM hal hs hm]
          simp only [decide_eq_false hm, iteM_false]
          rw [gdM_pos (by simp; omega)]; simp
      · rw [if_neg h2, if_neg h2]; simp
    · simp only [iteM_dec]
      rw [if_neg (by show ¬ (((actA t).length : Int) < ((actA t).length : Int)); omega), wI_of (by omega)]
      have : accF (actA t) acc (actA t).length = accT acc t := by unfold accF accT; rw [List.take_length]
      rw [this, hnext]
      simp
  · simp only [iteM_dec]
    rw [if_neg (by omega), List.take_length]
    have hs := hsane tabs.length
    have hl := hlen tabs.length (Nat.le_refl _)
    rw [List.take_length] at hs hl
    show exitM (sortM label_Compare (fireU tabs) fun x22 => pubbM 3 <| retM x22) = _
    have e : sortM label_Compare (fireU tabs) (fun x22 => pubbM 3 <| retM x22) = some (fireL tabs) := sortedL_eq hs (fireU_apart tabs) (by show (List.foldl accT [] tabs).length ≤ 100000; omega) rfl
    rw [e]; rfl
end Go.Proofs.YtchlojabjmlodaaDoor.AM

/- What was told: which may be; the search; one more. -/
namespace Go.Proofs.YtchlojabjmlodaaDoor.AM
open Go

instance : Inhabited GTold := ⟨⟨[], 0⟩⟩
def toldAt (x : List GTold) (i : Nat) : Bool := saneB (nth x i).L && tmB (nth x i).T && (decide (i = 0) || decide (compareL (nth x (i - 1)).L (nth x i).L < 0))
def toldB (x : List GTold) : Bool := decide (x.length ≤ 64) && (List.range x.length).all (toldAt x)
def cntX (x : List GTold) : List GTold := if toldB x then x else []
theorem notify_Sane_eq (x : List GTold) : notify_Sane x = some (toldB x) := by
  unfold notify_Sane toldB
  simp only [letE_eq, iteM_dec]
  by_cases h1 : 64 < x.length
  · rw [if_pos (by omega), decide_eq_false (by omega)]; rfl
  rw [if_neg (by omega), decide_eq_true (show x.length ≤ 64 by omega)]
  refine (loopM_nat x.length (fun i => (List.range x.length).all fun j => decide (j < i) || toldAt x j) ?_ ?_).trans ?_
  rotate_right
  · rw [all_zero]; rfl
  · intro i hi
    simp only [iteM_dec, idxM_get (nth_get hi), label_Sane_eq, callM_some, iteM_not, drawM_eq]
    rw [if_pos (by omega)]
    cases e1 : saneB (nth x i).L
    · left; simp [all_bad hi (show toldAt x i = false by simp [toldAt, e1])]
    simp only [iteM_true]
    by_cases e3 : (nth x i).T < 0
    · left; rw [if_pos e3]; simp [all_bad hi (show toldAt x i = false by simp [toldAt, tmB, show ¬ 0 ≤ (nth x i).T by omega])]
    rw [if_neg e3]
    by_cases e4 : 9007199254740992 < (nth x i).T
    · left; rw [if_pos e4]; simp [all_bad hi (show toldAt x i = false by simp [toldAt, tmB, show ¬ (nth x i).T ≤ 9007199254740992 by omega])]
    rw [if_neg e4]
    have e5 : tmB (nth x i).T = true := tmB_iff.2 (by omega)
    by_cases h0 : i = 0
    · right
      subst h0
      rw [if_neg (by omega), wI_of (by omega)]
      exact ⟨by simp [wI_of], all_lt (by simp [toldAt, e1, e5])⟩
    · rw [if_pos (by omega), wI_of (x := (i : Int) - 1) (by omega), idxM_of (x := nth x (i - 1)) (by omega) (by rw [show ((i : Int) - 1).toNat = i - 1 from by omega]; exact nth_get (by omega)), label_Compare_eq, callM_some]
      by_cases e6 : 0 ≤ compareL (nth x (i - 1)).L (nth x i).L
      · left; rw [if_pos e6]; simp [all_bad hi (show toldAt x i = false by simp [toldAt, h0, e6])]
      · right; rw [if_neg e6, wI_of (by omega)]
        exact ⟨by simp, all_lt (by simp [toldAt, e1, e5]; omega)⟩
  · try simp only [iteM_dec]
    rw [if_neg (by omega)]
    simp [all_end]
def AscT (x : List GTold) : Prop := x.Pairwise fun p q => cmpLs p.L q.L < 0
structure TOk (x : List GTold) : Prop where
  len : x.length ≤ 64
  sane : ∀ y ∈ x, saneB y.L = true
  time : ∀ y ∈ x, tmB y.T = true
  asc : AscT x
theorem toldB_iff {x : List GTold} : toldB x = true ↔ TOk x := by
  simp only [toldB, Bool.and_eq_true, decide_eq_true_eq, List.all_eq_true, List.mem_range]
  constructor
  · rintro ⟨h1, h2⟩
    have hs : ∀ y ∈ x, saneB y.L = true := fun y hy => by
      obtain ⟨i, hi, rfl⟩ := mem_nth hy
      have := h2 i hi
      simp only [toldAt, Bool.and_eq_true] at this
      exact this.1.1
    refine ⟨h1, hs, fun y hy => ?_, ?_⟩
    · obtain ⟨i, hi, rfl⟩ := mem_nth hy
      have := h2 i hi
      simp only [toldAt, Bool.and_eq_true] at this
      exact this.1.2
    · refine pairwise_of_adj (R := fun p q : GTold => cmpLs p.L q.L < 0) (fun a b c => cmpLs_lt) fun i hi => ?_
      have := h2 (i + 1) hi
      simp only [toldAt, Bool.and_eq_true, Bool.or_eq_true, decide_eq_true_eq] at this
      have h3 := this.2.resolve_left (by omega)
      rw [Nat.add_sub_cancel, compareL_sane (hs _ (nth_mem (by omega))) (hs _ (nth_mem hi))] at h3
      exact h3
  · rintro ⟨h1, h2, h3, h4⟩
    refine ⟨h1, fun i hi => ?_⟩
    simp only [toldAt, Bool.and_eq_true, Bool.or_eq_true, decide_eq_true_eq]
    refine ⟨⟨h2 _ (nth_mem hi), h3 _ (nth_mem hi)⟩, ?_⟩
    by_cases h0 : i = 0
    · exact .inl h0
    · right
      rw [compareL_sane (h2 _ (nth_mem (by omega))) (h2 _ (nth_mem hi))]
      exact pairwise_nth h4 (by omega) hi
theorem cntX_ok (x : List GTold) : TOk (cntX x) := by
  unfold cntX
  split
  · exact toldB_iff.1 (by assumption)
  · exact ⟨Nat.zero_le _, fun y h => (by cases h), fun y h => (by cases h), List.Pairwise.nil⟩
theorem cntX_of {x : List GTold} (h : TOk x) : cntX x = x := if_pos (toldB_iff.2 h)

/-! ### the search -/
theorem tell_1_eq (y : GTold) (l : List GPair) : notify_tell_1 y l = some (compareL y.L l) := by
  unfold notify_tell_1
  rw [label_Compare_eq, callM_some]; rfl
/-- How many were told that come ahead of l. -/
def cntL (x : List GTold) (l : List GPair) : Nat := (x.takeWhile fun y => decide (cmpLs y.L l < 0)).length
theorem cntL_le (x : List GTold) (l : List GPair) : cntL x l ≤ x.length := by
  unfold cntL
  exact (List.takeWhile_sublist _).length_le
theorem takeWhile_nth {α : Type} [Inhabited α] {p : α → Bool} : ∀ {l : List α} {k : Nat}, k < (l.takeWhile p).length → p (nth l k) = true
  | [], k, h => by simp at h
  | a :: l, k, h => by
    rw [List.takeWhile_cons] at h
    split at h
    · rename_i ha
      cases k with
      | zero => exact ha
      | succ k => exact takeWhile_nth (l := l) (by simpa using h)
    · simp at h
theorem takeWhile_end {α : Type} [Inhabited α] {p : α → Bool} : ∀ {l : List α}, (l.takeWhile p).length < l.length → p (nth l (l.takeWhile p).length) = false
  | [], h => by simp at h
  | a :: l, h => by
    rw [List.takeWhile_cons] at h ⊢
    split
    · rename_i ha
      rw [if_pos ha] at h
      exact takeWhile_end (l := l) (by simpa using h)
    · rename_i ha
      simpa [nth] using ha
theorem cntL_lt {x : List GTold} {l : List GPair} (ha : AscT x) {k : Nat} (hk : k < x.length) : cmpLs (nth x k).L l < 0 ↔ k < cntL x l := by
  constructor
  · intro h
    rcases Nat.lt_or_ge k (cntL x l) with h1 | h1
    · exact h1
    · have hc : cntL x l < x.length := by omega
      have h2 := takeWhile_end hc
      have h3 : ¬ cmpLs (nth x (cntL x l)).L l < 0 := of_decide_eq_false h2
      rcases Nat.lt_or_eq_of_le h1 with h4 | h4
      · exact absurd (cmpLs_lt (pairwise_nth ha h4 hk) h) h3
      · rw [h4] at h3; exact absurd h h3
  · intro h
    exact of_decide_eq_true (takeWhile_nth (p := fun y : GTold => decide (cmpLs y.L l < 0)) h)
/-- Was it told? -/
def wasB (x : List GTold) (l : List GPair) : Bool := decide (cntL x l < x.length) && decide ((nth x (cntL x l)).L = l)
theorem search_eq {x : List GTold} {l : List GPair} (hs : ∀ y ∈ x, saneB y.L = true) (ha : AscT x) (hl : saneB l = true) (hx : x.length ≤ 1000) :
    slices_BinarySearchFunc_Told_Told_Pair_notify_tell_1 x l = some ((cntL x l : Int), wasB x l) := by
  unfold slices_BinarySearchFunc_Told_Told_Pair_notify_tell_1
  simp only [letE_eq]
  refine loopM_rec (fun s => ∃ i j : Nat, s = ((j : Int), (i : Int)) ∧ i ≤ cntL x l ∧ cntL x l ≤ j ∧ j ≤ x.length) (fun s => (s.1 - s.2).toNat) (fun _ => ((cntL x l : Int), wasB x l)) ?_ ⟨0, x.length, rfl, Nat.zero_le _, cntL_le x l, Nat.le_refl _⟩
  rintro s ⟨i, j, rfl, h1, h2, h3⟩
  simp only [iteM_dec]
  by_cases hij : i < j
  · right
    have e1 : wI ((i : Int) + (j : Int)) = (i : Int) + (j : Int) := wI_of (by omega)
    have e2 : IntKind.u64.wrap ((i : Int) + (j : Int)) = (i : Int) + (j : Int) := IntWalk.u64_in _ (by omega)
    have e3 : ((i : Int) + (j : Int)) / 2 ^ min (1 : Int).toNat 64 = (((i + j) / 2 : Nat) : Int) := by
      show ((i : Int) + (j : Int)) / 2 = _
      omega
    have e4 : wI (((i + j) / 2 : Nat) : Int) = (((i + j) / 2 : Nat) : Int) := wI_of (by omega)
    have hh : (i + j) / 2 < x.length := by omega
    rw [if_pos (by omega), e1, e2, e3, e4, idxM_get (nth_get hh), tell_1_eq, callM_some, compareL_sane (hs _ (nth_mem hh)) hl]
    by_cases hc : cmpLs (nth x ((i + j) / 2)).L l < 0
    · have := (cntL_lt ha hh).1 hc
      rw [if_pos hc, wI_of (by omega)]
      exact ⟨_, rfl, ⟨(i + j) / 2 + 1, j, by simp, by omega, h2, h3⟩, by simp only; omega, trivial⟩
    · have : ¬ (i + j) / 2 < cntL x l := fun h => hc ((cntL_lt ha hh).2 h)
      rw [if_neg hc]
      exact ⟨_, rfl, ⟨i, (i + j) / 2, rfl, h1, by omega, by omega⟩, by simp only; omega, trivial⟩
  · left
    have : i = cntL x l := by omega
    subst this
    rw [if_neg (by omega)]
    unfold wasB
    by_cases hn : cntL x l < x.length
    · rw [if_pos (by omega), idxM_get (nth_get hn), tell_1_eq, callM_some]
      have := compareL_zero (hs _ (nth_mem hn)) hl
      simp [hn, this]
    · rw [if_neg (by omega)]
      simp [hn]
theorem wasB_iff {x : List GTold} {l : List GPair} (ha : AscT x) : wasB x l = true ↔ ∃ y ∈ x, y.L = l := by
  unfold wasB
  simp only [Bool.and_eq_true, decide_eq_true_eq]
  constructor
  · rintro ⟨h1, h2⟩
    exact ⟨_, nth_mem h1, h2⟩
  · rintro ⟨y, hy, rfl⟩
    obtain ⟨k, hk, rfl⟩ := mem_nth hy
    have h0 : ¬ cmpLs (nth x k).L (nth x k).L < 0 := by
      have := (cmpLs_ord.zero (nth x k).L (nth x k).L).2 rfl
      omega
    have h1 : ¬ k < cntL x (nth x k).L := fun h => h0 ((cntL_lt ha hk).2 h)
    have h2 : ∀ j, j < k → j < cntL x (nth x k).L := fun j hj => (cntL_lt ha (by omega)).1 (pairwise_nth ha hj hk)
    have h3 : cntL x (nth x k).L = k := by
      rcases Nat.lt_trichotomy (cntL x (nth x k).L) k with h | h | h
      · exact absurd (h2 _ h) (by omega)
      · exact h
      · exact absurd h h1
    rw [h3]; exact ⟨hk, rfl⟩
end Go.Proofs.YtchlojabjmlodaaDoor.AM

/- What is told, behind labels that fire; behind a look. -/
namespace Go.Proofs.YtchlojabjmlodaaDoor.AM
open Go

/-! ### one label that fires -/
def insT (x : List GTold) (l : List GPair) (t : Int) : List GTold := x.take (cntL x l) ++ [⟨l, t⟩] ++ x.drop (cntL x l)
def tellS (t g : Int) (s : List GTold × GQueue) (l : List GPair) : List GTold × GQueue :=
  if wasB s.1 l then
    (if g ≤ t - (nth s.1 (cntL s.1 l)).T then (s.1.set (cntL s.1 l) ⟨l, t⟩, pushQ s.2 l true t) else s)
  else if s.1.length < 64 then (insT s.1 l t, pushQ s.2 l true t) else s
theorem insT_perm (x : List GTold) (l : List GPair) (t : Int) : (insT x l t).Perm (⟨l, t⟩ :: x) := by
  unfold insT
  rw [List.append_assoc]
  refine (List.perm_append_comm_assoc _ _ _).trans ?_
  simp
theorem insT_len (x : List GTold) (l : List GPair) (t : Int) : (insT x l t).length = x.length + 1 := (insT_perm x l t).length_eq
theorem insT_asc {x : List GTold} {l : List GPair} {t : Int} (h : AscT x) (hn : wasB x l = false) : AscT (insT x l t) := by
  have hno : ∀ y ∈ x, y.L ≠ l := fun y hy e => by
    rw [(wasB_iff h).2 ⟨y, hy, e⟩] at hn; cases hn
  have h1 : ∀ y ∈ x.take (cntL x l), cmpLs y.L l < 0 := fun y hy => by
    obtain ⟨k, hk, rfl⟩ := List.mem_iff_getElem.1 hy
    rw [List.length_take] at hk
    have := (cntL_lt h (k := k) (l := l) (by omega)).2 (by omega)
    rw [List.getElem_take]
    unfold nth at this
    rwa [List.getD_eq_getElem?_getD, List.getElem?_eq_getElem (by omega)] at this
  have h2 : ∀ y ∈ x.drop (cntL x l), cmpLs l y.L < 0 := fun y hy => by
    have hyx := List.mem_of_mem_drop hy
    obtain ⟨k, hk, rfl⟩ := List.mem_iff_getElem.1 hy
    rw [List.length_drop] at hk
    have h3 : ¬ cmpLs (nth x (cntL x l + k)).L l < 0 := fun h' => by
      have := (cntL_lt h (k := cntL x l + k) (by omega)).1 h'
      omega
    have he : nth x (cntL x l + k) = (x.drop (cntL x l))[k] := by
      unfold nth
      rw [List.getD_eq_getElem?_getD, List.getElem?_eq_getElem (by omega), List.getElem_drop]; rfl
    rw [he] at h3
    exact cmp_flip h3 (hno _ hyx)
  unfold insT
  refine List.pairwise_append.2 ⟨List.pairwise_append.2 ⟨h.sublist (List.take_sublist _ _), List.pairwise_singleton _ _, fun a ha b hb => ?_⟩, h.sublist (List.drop_sublist _ _), fun a ha b hb => ?_⟩
  · simp only [List.mem_singleton] at hb
    subst hb
    exact h1 a ha
  · rcases List.mem_append.1 ha with ha | ha
    · exact cmpLs_lt (h1 a ha) (h2 b hb)
    · simp only [List.mem_singleton] at ha
      subst ha
      exact h2 b hb
theorem set_map {x : List GTold} {i : Nat} {v : GTold} (hi : i < x.length) (hv : v.L = (nth x i).L) : (x.set i v).map GTold.L = x.map GTold.L := by
  rw [List.map_set]
  refine List.ext_getElem? fun k => ?_
  rw [List.getElem?_set]
  split
  · rename_i hk
    subst hk
    rw [if_pos (by simpa using hi), List.getElem?_map, nth_get hi, hv]; rfl
  · rfl
theorem ascT_map {x y : List GTold} (h : x.map GTold.L = y.map GTold.L) (hy : AscT y) : AscT x := by
  have : (y.map GTold.L).Pairwise fun p q => cmpLs p q < 0 := List.pairwise_map.2 hy
  rw [← h] at this
  exact List.pairwise_map.1 this
theorem tellS_ok {t g : Int} {s : List GTold × GQueue} {l : List GPair} (hx : TOk s.1) (hq : QuOk s.2) (hl : saneB l = true) (ht : tmB t = true) : TOk (tellS t g s l).1 ∧ QuOk (tellS t g s l).2 := by
  unfold tellS
  split
  · rename_i hw
    split
    · refine ⟨?_, pushQ_ok hq _ _ _⟩
      simp only [wasB, Bool.and_eq_true, decide_eq_true_eq] at hw
      have hm := set_map (x := s.1) (v := ⟨l, t⟩) hw.1 hw.2.symm
      refine ⟨by simpa using hx.len, fun y hy => ?_, fun y hy => ?_, ascT_map hm hx.asc⟩
      · rcases List.mem_or_eq_of_mem_set hy with h | rfl
        · exact hx.sane y h
        · exact hl
      · rcases List.mem_or_eq_of_mem_set hy with h | rfl
        · exact hx.time y h
        · exact ht
    · exact ⟨hx, hq⟩
  · rename_i hw
    split
    · rename_i hlen
      refine ⟨⟨by simp only [insT_len]; omega, fun y hy => ?_, fun y hy => ?_, insT_asc hx.asc (by simpa using hw)⟩, pushQ_ok hq _ _ _⟩
      · rcases List.mem_cons.1 ((insT_perm _ _ _).mem_iff.1 hy) with rfl | h
        · exact hl
        · exact hx.sane y h
      · rcases List.mem_cons.1 ((insT_perm _ _ _).mem_iff.1 hy) with rfl | h
        · exact ht
        · exact hx.time y h
    · exact ⟨hx, hq⟩
theorem tell_eq {t g : Int} {q : GQueue} {x : List GTold} {l : List GPair} (hx : TOk x) (hq : QuOk q) (hl : saneB l = true) (ht : tmB t = true) :
    notify_tell_o q l t g x = some (tellS t g (x, q) l) := by
  have hlen := hx.len
  unfold notify_tell_o tellS
  rw [search_eq hx.sane hx.asc hl (by omega), callM_some]
  have hc := cntL_le x l
  have hins : x.length < 64 → slicesInsert_GTold ((cntL x l : Nat) : Int) [⟨l, t⟩] x = some (insT x l t) := fun h => by
    unfold slicesInsert_GTold slicesInsert
    rw [gdM_pos ⟨by omega, by omega, rfl, by omega⟩, Int.toNat_natCast]; rfl
  cases hw : wasB x l
  · simp only [iteM_false, letE_eq, Bool.not_false, cond_true, iteM_dec]
    by_cases h64 : x.length < 64
    · rw [if_pos (by omega), if_neg (by simp), if_pos h64, pushQ_cnt hq, callM_some]
      simp only [swapM, linM, letE_eq, callP, hins h64, Option.bind_some]; rfl
    · rw [if_neg (by omega), if_neg (by simp), if_neg h64]; rfl
  · have hw' := hw
    simp only [wasB, Bool.and_eq_true, decide_eq_true_eq] at hw'
    have htm := tmB_iff.1 (hx.time _ (nth_mem hw'.1))
    have htt := tmB_iff.1 ht
    simp only [iteM_true, idxM_get (nth_get hw'.1), letE_eq, iteM_dec, Bool.not_true, cond_false]
    rw [wI_of (by omega)]
    by_cases hg : g ≤ t - (nth x (cntL x l)).T
    · rw [if_pos hg, if_pos hg, pushQ_cnt hq, callM_some]
      rw [Int.toNat_natCast, hw'.2]; rfl
    · rw [if_neg hg, if_neg hg]; rfl
end Go.Proofs.YtchlojabjmlodaaDoor.AM

/- What is told in whole. -/
namespace Go.Proofs.YtchlojabjmlodaaDoor.AM
open Go

def stepX (F : List (List GPair)) (t : Int) (s : List GTold × GQueue) (y : GTold) : List GTold × GQueue :=
  if y.L ∈ F then (s.1 ++ [y], s.2) else (s.1, pushQ s.2 y.L false t)
def keepF (x : List GTold) (q : GQueue) (F : List (List GPair)) (t : Int) : List GTold × GQueue := x.foldl (stepX F t) ([], q)
def tellF (x : List GTold) (q : GQueue) (F : List (List GPair)) (t g : Int) : List GTold × GQueue := F.foldl (tellS t g) (keepF x q F t)

theorem foldX_fst (F : List (List GPair)) (t : Int) : ∀ (x : List GTold) (s : List GTold × GQueue), (x.foldl (stepX F t) s).1 = s.1 ++ x.filter fun y => decide (y.L ∈ F)
  | [], s => by simp
  | y :: x, s => by
    rw [List.foldl_cons, foldX_fst F t x]
    unfold stepX
    by_cases h : y.L ∈ F <;> simp [h]
theorem foldX_ok (F : List (List GPair)) (t : Int) : ∀ (x : List GTold) (s : List GTold × GQueue), QuOk s.2 → QuOk (x.foldl (stepX F t) s).2
  | [], s, h => h
  | y :: x, s, h => by
    rw [List.foldl_cons]
    refine foldX_ok F t x _ ?_
    unfold stepX
    split
    · exact h
    · exact pushQ_ok h _ _ _
theorem filter_TOk {x : List GTold} (h : TOk x) (p : GTold → Bool) : TOk (x.filter p) :=
  ⟨Nat.le_trans (List.length_filter_le _ _) h.len, fun y hy => h.sane y (List.mem_filter.1 hy |>.1), fun y hy => h.time y (List.mem_filter.1 hy |>.1), h.asc.sublist List.filter_sublist⟩
theorem keepF_ok {x : List GTold} {q : GQueue} (hx : TOk x) (hq : QuOk q) (F : List (List GPair)) (t : Int) : TOk (keepF x q F t).1 ∧ QuOk (keepF x q F t).2 := by
  refine ⟨?_, foldX_ok F t x _ hq⟩
  unfold keepF
  rw [foldX_fst]
  exact filter_TOk hx _
theorem foldS_ok {t g : Int} (ht : tmB t = true) : ∀ (F : List (List GPair)) (s : List GTold × GQueue), (∀ l ∈ F, saneB l = true) → TOk s.1 → QuOk s.2 → TOk (F.foldl (tellS t g) s).1 ∧ QuOk (F.foldl (tellS t g) s).2
  | [], s, _, h1, h2 => ⟨h1, h2⟩
  | l :: F, s, hs, h1, h2 => by
    rw [List.foldl_cons]
    have := tellS_ok (g := g) h1 h2 (hs l List.mem_cons_self) ht
    exact foldS_ok ht F _ (fun k hk => hs k (List.mem_cons_of_mem _ hk)) this.1 this.2
theorem tellF_ok {x : List GTold} {q : GQueue} (hx : TOk x) (hq : QuOk q) {F : List (List GPair)} (hF : ∀ l ∈ F, saneB l = true) {t g : Int} (ht : tmB t = true) : TOk (tellF x q F t g).1 ∧ QuOk (tellF x q F t g).2 := by
  have := keepF_ok hx hq F t
  exact foldS_ok ht F _ hF this.1 this.2
theorem notify_Tell_main {x : List GTold} {q : GQueue} (hx : TOk x) (hq : QuOk q) (tabs : List GTable) (h : tabs.length ≤ 1000) (t g : Int) :
    notify_Tell x q tabs t g = some (tellF x q (fireL tabs) (bd t) (max g 0)) := by
  unfold notify_Tell
  simp only [joinM_eq, notify_Sane_eq, callM_some, letE_eq, iteM_not, toldB_iff.2 hx, iteM_true, nextM_eq, Option.bind_some, Sum.elim_inl, queue_Sane_eq, queueB_iff.2 hq, notify_Firing_eq tabs h, letO_eq]
  have hFs : ∀ l ∈ fireL tabs, saneB l = true := fun l hl => fireL_sane hl
  have hFn : (fireL tabs).Nodup := (fireL_asc tabs).imp fun {a b} hab e => by
    have := (cmpLs_ord.zero a b).2 e
    omega
  have hFl : (fireL tabs).length ≤ 16000 := by
    have := foldT_len tabs []
    have h1 : (fireL tabs).length = (fireU tabs).length := (sortLs_perm _).length_eq
    unfold fireU at h1
    simp only [List.length_nil] at this
    omega
  have htm : tmB (bd t) = true := tmB_bd t
  generalize fireL tabs = F at *
  have hxl := hx.len
  show loopM _ _ _ _ = _
  refine loopM_ix (fun s => s.2) (fun i => (kM (F.take i), (i : Int))) F.length _ (fun _ => rfl) ?_ ?_ rfl
  · intro i hi
    simp only [iteM_dec, idxM_get (nth_get hi), keyOf_eq, callM_some, letE_eq, letO_eq]
    have hm := nth_mem hi
    have hn : nth F i ∉ F.take i := fun hc => by
      have := List.nodup_append.1 ((take_nth hi) ▸ (hFn.sublist (List.take_sublist (i + 1) F)))
      exact this.2.2 _ hc _ (by simp) rfl
    rw [if_pos (by omega), mst_kM (hFs _ hm) (fun k hk => hFs k (List.mem_of_mem_take hk)) hn, wI_of (by omega), take_nth hi]
    simp
  · simp only [iteM_dec]
    rw [if_neg (by omega), List.take_length]
    rw [exitM_inl]
    rw [show ∀ m : Option (List GTold × GQueue), ∀ y, m = some y → m.map (Sum.inr (α := List (LA16_cGPair × Bool) × Int)) = some (.inr y) from fun m y h => by rw [h]; rfl]
    simp only [letE_eq, tokM_eq]
    refine loopM_ix (fun s => s.2.2.2.2) (fun i => let s := (x.take i).foldl (stepX F (bd t)) ([], q); (s.2.N, s.2.Drops, s.2.Lost, s.1, (i : Int))) x.length _ (fun _ => rfl) ?_ ?_ rfl
    · intro i hi
      have hs := foldX_ok F (bd t) (x.take i) ([], q) hq
      have hl : ((x.take i).foldl (stepX F (bd t)) ([], q)).1.length ≤ 64 := by
        rw [foldX_fst]
        have := List.length_filter_le (fun y : GTold => decide (y.L ∈ F)) (x.take i)
        rw [List.length_take] at this
        simp only [List.nil_append]; omega
      have hst := take_foldl (f := stepX F (bd t)) (b := ([], q)) hi
      simp only [iteM_dec, idxM_get (nth_get hi), keyOf_eq, callM_some, letE_eq, letO_eq, hst]
      generalize (x.take i).foldl (stepX F (bd t)) ([], q) = s at *
      rw [if_pos (by omega), mlk_kM (hx.sane _ (nth_mem hi)) hFs, wI_of (by omega)]
      unfold stepX
      by_cases hm : (nth x i).L ∈ F
      · simp only [decide_eq_true hm, iteM_true]
        rw [gdM_pos (by simp; omega), if_pos hm]; simp
      · simp only [decide_eq_false hm, iteM_false]
        rw [if_neg hm]
        rw [show (⟨s.2.N, s.2.Drops, s.2.Lost⟩ : GQueue) = s.2 from rfl]
        have e : queue_Push s.2 (nth x i).L false (min (max t 0) 9007199254740992) = some (pushQ s.2 (nth x i).L false (bd t)) := pushQ_cnt hs _ _ _
        rw [e, callM_some]; simp
    · simp only [iteM_dec]
      rw [if_neg (by omega), List.take_length]
      rw [exitM_inl]
      rw [show ∀ m : Option (List GTold × GQueue), ∀ y, m = some y → m.map (Sum.inr (α := List GNote × Int × Int × List GTold × Int)) = some (.inr y) from fun m y h => by rw [h]; rfl]
      have hk := keepF_ok hx hq F (bd t)
      unfold tellF
      change TOk (keepF x q F (bd t)).1 ∧ QuOk (keepF x q F (bd t)).2 at hk
      show loopM _ _ _ ((keepF x q F (bd t)).2.N, (keepF x q F (bd t)).2.Drops, (keepF x q F (bd t)).2.Lost, (keepF x q F (bd t)).1, (0 : Int)) = _
      generalize keepF x q F (bd t) = k at *
      refine loopM_ix (fun s => s.2.2.2.2) (fun i => let s := (F.take i).foldl (tellS (bd t) (max g 0)) k; (s.2.N, s.2.Drops, s.2.Lost, s.1, (i : Int))) F.length _ (fun _ => rfl) ?_ ?_ rfl
      · intro i hi
        have hs := foldS_ok (g := max g 0) htm (F.take i) k (fun l hl => hFs l (List.mem_of_mem_take hl)) hk.1 hk.2
        have hst := take_foldl (f := tellS (bd t) (max g 0)) (b := k) hi
        simp only [iteM_dec, idxM_get (nth_get hi), letE_eq, hst]
        generalize (F.take i).foldl (tellS (bd t) (max g 0)) k = s at *
        rw [if_pos (by omega)]
        have e : notify_tell_o s.2 (nth F i) (min (max t 0) 9007199254740992) (max g 0) s.1 = some (tellS (bd t) (max g 0) (s.1, s.2) (nth F i)) := tell_eq hs.1 hs.2 (hFs _ (nth_mem hi)) htm
        simp only [linM, swapM, callP]
        rw [show (⟨s.2.N, s.2.Drops, s.2.Lost⟩ : GQueue) = s.2 from rfl, e]
        simp only [Option.bind_some]
        rw [wI_of (by omega)]; simp
      · simp only [iteM_dec]
        rw [if_neg (by omega), List.take_length]
        rfl
theorem notify_Tell_eq (x : List GTold) (q : GQueue) (tabs : List GTable) (h : tabs.length ≤ 1000) (t g : Int) :
    notify_Tell x q tabs t g = some (tellF (cntX x) (cntQ q) (fireL tabs) (bd t) (max g 0)) := by
  have e : notify_Tell x q tabs t g = notify_Tell (cntX x) (cntQ q) tabs t g := by
    unfold notify_Tell
    simp only [joinM_eq, notify_Sane_eq, callM_some, letE_eq, iteM_not, toldB_iff.2 (cntX_ok x), iteM_true, nextM_eq, Option.bind_some, Sum.elim_inl, queue_Sane_eq, cntQ_ok q]
    have h1 : ∀ (f : List GTold → Option (List GTold × GQueue)), Option.bind (iteM (toldB x) (some (.inl x)) (some (.inl ([] : List GTold)))) (Sum.elim f some) = f (cntX x) := fun f => by
      unfold cntX; cases toldB x <;> rfl
    have h2 : ∀ (f : List GNote × Int × Int → Option (List GTold × GQueue)), Option.bind (iteM (queueB q) (some (.inl (q.N, q.Drops, q.Lost))) (some (.inl (([] : List GNote), (0 : Int), (0 : Int))))) (Sum.elim f some) = f ((cntQ q).N, (cntQ q).Drops, (cntQ q).Lost) := fun f => by
      unfold cntQ; cases queueB q <;> rfl
    rw [h1, h2]
  rw [e]
  exact notify_Tell_main (cntX_ok x) (queueB_iff.1 (cntQ_ok q)) tabs h t g
end Go.Proofs.YtchlojabjmlodaaDoor.AM

/- What the law asks besides: few, the same, awake. -/
namespace Go.Proofs.YtchlojabjmlodaaDoor.AM
open Go

def fewX (x : List GTold) : Bool := x.all (fun y => fewB y.L) && decide (x.length ≤ 80)
def fewQ (q : GQueue) : Bool := q.N.all (fun y => fewB y.L) && decide (q.N.length ≤ 40)
def fewTs (T : List GTable) : Bool := T.all (fun t => fewT t.A) && decide (T.length ≤ 40)
theorem few_loop {α : Type} [Inhabited α] {p : α → Bool} {l : List α} (k : Nat) {ph : Int → List (Nat × AV)} {ob : Int → List Obj} {step : Int → Option (Int ⊕ Bool)} (h : l.length ≤ 9223372036854775807)
    (h1 : ∀ i, i < l.length → step (i : Int) = if p (nth l i) then some (.inl ((i + 1 : Nat) : Int)) else some (.inr false)) (h2 : step (l.length : Int) = some (.inr (decide (l.length ≤ k)))) : loopM ph ob step 0 = some (l.all p && decide (l.length ≤ k)) := by
  refine (loopM_nat l.length (fun i => (l.drop i).all p && decide (l.length ≤ k)) ?_ ?_).trans (by simp)
  · intro i hi
    rw [h1 i hi, all_drop hi]
    cases p (nth l i)
    · left; simp
    · right; simp
  · rw [h2]; simp
theorem ref23_Few_eq (x : List GTold) (h : x.length ≤ 9223372036854775807) (hl : ∀ a ∈ x, a.L.length ≤ 9223372036854775807) : ref23_Few x = some (fewX x) := by
  unfold ref23_Few
  refine few_loop (p := fun y : GTold => fewB y.L) 80 h ?_ ?_
  · intro i hi
    simp only [letE_eq, iteM_dec, idxM_get (nth_get hi), iteM_not]
    rw [if_pos (by omega), ref03_Few_eq _ (hl _ (nth_mem hi)), callM_some]
    cases fewB (nth x i).L
    · rfl
    · rw [wI_of (by omega)]; simp
  · simp only [letE_eq, iteM_dec]
    rw [if_neg (by omega)]
    simp only [retM_eq, exitM_some]
    rw [show decide ((x.length : Int) ≤ 80) = decide (x.length ≤ 80) from by rw [decide_eq_decide]; omega]
def TabBd (t : GTable) : Prop := t.A.length ≤ 9223372036854775807 ∧ ∀ a ∈ t.A, a.L.length ≤ 9223372036854775807
set_option maxRecDepth 100000 in
theorem awake_eq : law23_awake = some true := by
  unfold law23_awake
  simp only [letE_eq]
  rw [table_Step_eq _ _ _ _ (by simp), callM_some]
  simp only [notify_Tell_eq _ _ [_] (by simp), notify_Tell_eq _ _ [] (by simp), notify_Firing_eq [_] (by simp), notify_Sane_eq, callM_some]
  kernel_rfl
end Go.Proofs.YtchlojabjmlodaaDoor.AM

/- When nothing fires any more; the law NotifyNone. -/
namespace Go.Proofs.YtchlojabjmlodaaDoor.AM
open Go

theorem bd_of {t : Int} (h : tmB t = true) : bd t = t := by
  have := tmB_iff.1 h
  unfold bd
  omega
theorem foldX_nil {t : Int} (ht : tmB t = true) : ∀ (x : List GTold) (s : List GTold × GQueue), (∀ y ∈ x, saneB y.L = true) → s.2.N.length ≤ 16 → 0 ≤ s.2.Drops → s.2.Drops + x.length ≤ 9007199254740992 →
    x.foldl (stepX [] t) s = (s.1, ⟨s.2.N ++ (x.take (16 - s.2.N.length)).map (fun y => note y.L false t), s.2.Drops + ((x.length - (16 - s.2.N.length) : Nat) : Int), s.2.Lost⟩)
  | [], s, _, _, _, _ => by simp
  | y :: x, s, hs, hl, h0, hd => by
    rw [List.foldl_cons]
    have hy := hs y List.mem_cons_self
    have hs' : ∀ z ∈ x, saneB z.L = true := fun z hz => hs z (List.mem_cons_of_mem _ hz)
    simp only [List.length_cons] at hd
    have e : stepX [] t s y = (s.1, pushQ s.2 y.L false t) := by unfold stepX; simp
    rw [e]
    unfold pushQ
    rw [if_pos hy]
    by_cases h16 : 16 ≤ s.2.N.length
    · rw [if_pos h16]
      have hm : min (s.2.Drops + 1) cap = s.2.Drops + 1 := by
        have : cap = 9007199254740992 := rfl
        omega
      simp only [hm]
      rw [foldX_nil ht x (s.1, ⟨s.2.N, s.2.Drops + 1, s.2.Lost⟩) hs' hl (by simp only; omega) (by simp only; omega)]
      simp only
      rw [show 16 - s.2.N.length = 0 by omega]
      simp only [List.take_zero, List.map_nil, List.append_nil, List.length_cons, Nat.sub_zero]
      congr 2
      omega
    · rw [if_neg h16, bd_of ht]
      rw [foldX_nil ht x _ hs' (by simp only [List.length_append, List.length_cons, List.length_nil]; omega) (by simpa using h0) (by simp only; omega)]
      simp only [List.length_append, List.length_cons, List.length_nil]
      rw [show 16 - s.2.N.length = (16 - (s.2.N.length + (0 + 1))) + 1 by omega]
      simp only [List.take_succ_cons, List.map_cons]
      congr 2
      · simp
      · congr 2; omega
theorem fireL_nil : fireL [] = [] := rfl
theorem law23_NotifyNone_pl (x : List GTold) (t g : Int) (h1 : x.length ≤ 9223372036854775807) (h2 : ∀ y ∈ x, y.L.length ≤ 9223372036854775807) : law23_NotifyNone x t g = some true := by
  unfold law23_NotifyNone
  rw [awake_eq, callM_some, ref23_Few_eq x h1 h2, callM_some, notify_Sane_eq, callM_some]
  simp only [letE_eq, iteM_not, retM_eq]
  cases fewX x
  · rfl
  cases hx : toldB x
  · rfl
  simp only [iteM_true, Bool.not_true, cond_false]
  by_cases ht1 : t < 0
  · simp [ht1]
  by_cases ht2 : 9007199254740992 < t
  · simp [ht1, ht2]
  have ht : tmB t = true := tmB_iff.2 (by omega)
  simp only [decide_eq_false ht1, decide_eq_false ht2, cond_false, iteM_false]
  have hxo := toldB_iff.1 hx
  have hlen := hxo.len
  rw [notify_Tell_eq _ _ _ (by simp), callM_some, cntX_of hxo, bd_of ht, fireL_nil, show cntQ ⟨[], 0, 0⟩ = q0 from rfl]
  have e : tellF x q0 [] t (max g 0) = ([], ⟨(x.take 16).map (fun y => note y.L false t), ((x.length - 16 : Nat) : Int), 0⟩) := by
    show x.foldl (stepX [] t) ([], q0) = _
    rw [foldX_nil ht x _ hxo.sane (by simp [q0]) (by simp [q0]) (by simp [q0]; omega)]
    simp [q0]
  rw [e]
  simp only [List.length_nil, List.length_map, List.length_take, iteM_dec]
  rw [if_pos (by omega), if_pos (by omega), if_pos (by rw [wI_of (by omega)]; omega)]
  refine (loopM_nat (min 16 x.length) (fun _ => true) ?_ ?_)
  · intro i hi
    right
    refine ⟨?_, rfl⟩
    have hix : i < x.length := by omega
    have hg : ((x.take 16).map (fun y => note y.L false t))[i]? = some (note (nth x i).L false t) := by
      rw [List.getElem?_map, List.getElem?_take, if_pos (by omega), nth_get hix]; rfl
    have hz := (compareL_zero (hxo.sane _ (nth_mem hix)) (hxo.sane _ (nth_mem hix))).2 rfl
    rw [if_pos (by omega), drawM_eq, idxM_get hg, idxM_get (nth_get hix), label_Compare_eq, callM_some]
    simp only [note, hz, decide_true, if_true, iteM_true, iteM_false]
    rw [wI_of (by omega)]; simp
  · rw [if_neg (by omega)]
    rfl
end Go.Proofs.YtchlojabjmlodaaDoor.AM
